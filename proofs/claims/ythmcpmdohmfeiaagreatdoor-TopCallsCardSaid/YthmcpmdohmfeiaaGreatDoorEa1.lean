/- An evaluator over memory whose blocks bear names of their own: its trees, values, operations. -/
import Derived.KernelRfl
import Derived.Orders
import Derived.Scope
import Derived.LoopN
import Derived.Laws.Append
import Derived.Room.AppendAsks
import Derived.Room.AppendUpon
import Derived.Room.AppendOwn
import Derived.Deep.MidRow
import Derived.Below
import Derived.Laws.MakeOwn
import Derived.Great.BuildSlice
import Derived.Laws.BytesString
namespace Go.Ev
open Go
set_option linter.unusedVariables false
/-- A tree by the digits of a number. -/
inductive Tr (α : Type) where
  | lf
  | nd (l : Tr α) (v : Option α) (r : Tr α)
namespace Tr
variable {α : Type}
def get : Tr α → Nat → Option α
  | .lf, _ => none
  | .nd _ v _, 0 => v
  | .nd l _ r, k + 1 => bif (k % 2).beq 0 then l.get (k / 2) else r.get (k / 2)
def left : Tr α → Tr α | .lf => .lf | .nd l _ _ => l
def right : Tr α → Tr α | .lf => .lf | .nd _ _ r => r
def top : Tr α → Option α | .lf => none | .nd _ v _ => v
def putF : Nat → Tr α → Nat → Option α → Tr α
  | 0, t, _, _ => t
  | _ + 1, t, 0, v => .nd t.left v t.right
  | f + 1, t, k + 1, v => bif (k % 2).beq 0 then .nd (putF f t.left (k / 2) v) t.top t.right else .nd t.left t.top (putF f t.right (k / 2) v)
def put (t : Tr α) (n : Nat) (v : Option α) : Tr α := putF (n + 1) t n v
theorem get_nd (t : Tr α) (k : Nat) : t.get (k + 1) = (bif (k % 2).beq 0 then t.left.get (k / 2) else t.right.get (k / 2)) := by
  cases t <;> simp [get, left, right]
theorem get_zero (t : Tr α) : t.get 0 = t.top := by cases t <;> rfl
theorem get_putF : ∀ (f : Nat) (t : Tr α) (n : Nat) (v : Option α) (j : Nat), n < f → (putF f t n v).get j = if j = n then v else t.get j := by
  intro f
  induction f with
  | zero => intro t n v j h; omega
  | succ f ih =>
    intro t n v j h
    cases n with
    | zero =>
      cases j with
      | zero => simp [putF, get]
      | succ j => simp [putF, get_nd, left, right]
    | succ k =>
      have hk : k / 2 < f := by omega
      simp only [putF]
      cases hb : (k % 2).beq 0
      · simp only [cond_false]
        cases j with
        | zero => rw [get_zero, get_zero]; simp [top]
        | succ j =>
          rw [get_nd, get_nd]
          simp only [left, right]
          cases hj : (j % 2).beq 0
          · simp only [cond_false]
            rw [ih _ _ _ _ hk]
            have h1 : j % 2 = 1 := by have : ¬ j % 2 = 0 := fun e => by simp [e] at hj
                                      omega
            have h2 : k % 2 = 1 := by have : ¬ k % 2 = 0 := fun e => by simp [e] at hb
                                      omega
            by_cases e : j = k
            · subst e; simp
            · rw [if_neg (by omega), if_neg (by omega)]
          · simp only [cond_true]
            have h1 : j % 2 = 0 := by simpa using hj
            have h2 : k % 2 = 1 := by have : ¬ k % 2 = 0 := fun e => by simp [e] at hb
                                      omega
            rw [if_neg (by omega)]
      · simp only [cond_true]
        have h2 : k % 2 = 0 := by simpa using hb
        cases j with
        | zero => rw [get_zero, get_zero]; simp [top]
        | succ j =>
          rw [get_nd, get_nd]
          simp only [left, right]
          cases hj : (j % 2).beq 0
          · simp only [cond_false]
            have h1 : j % 2 = 1 := by have : ¬ j % 2 = 0 := fun e => by simp [e] at hj
                                      omega
            rw [if_neg (by omega)]
          · simp only [cond_true]
            have h1 : j % 2 = 0 := by simpa using hj
            rw [ih _ _ _ _ hk]
            by_cases e : j = k
            · subst e; simp
            · rw [if_neg (by omega), if_neg (by omega)]
theorem get_put (t : Tr α) (n : Nat) (v : Option α) (j : Nat) : (t.put n v).get j = if j = n then v else t.get j := get_putF _ _ _ _ _ (by omega)
end Tr
/-- A block as it is named here: its cells, their row's type, whether it may only be read. -/
structure Ob where
  cells : List Value
  elem : TypeId
  ro : Bool
structure Heap where
  t : Tr Ob
  n : Nat
namespace Heap
def get (H : Heap) (b : Nat) : Option Ob := H.t.get b
def put (H : Heap) (b : Nat) (o : Ob) : Heap := { H with t := H.t.put b (some o) }
def kill (H : Heap) (b : Nat) : Heap := { H with t := H.t.put b none }
def push (H : Heap) (o : Ob) : Heap := { t := H.t.put H.n (some o), n := H.n + 1 }
theorem get_put (H : Heap) (b : Nat) (o : Ob) (j : Nat) : (H.put b o).get j = if j = b then some o else H.get j := Tr.get_put _ _ _ _
theorem get_kill (H : Heap) (b : Nat) (j : Nat) : (H.kill b).get j = if j = b then none else H.get j := Tr.get_put _ _ _ _
theorem get_push (H : Heap) (o : Ob) (j : Nat) : (H.push o).get j = if j = H.n then some o else H.get j := Tr.get_put _ _ _ _
theorem n_put (H : Heap) (b : Nat) (o : Ob) : (H.put b o).n = H.n := rfl
theorem n_kill (H : Heap) (b : Nat) : (H.kill b).n = H.n := rfl
theorem n_push (H : Heap) (o : Ob) : (H.push o).n = H.n + 1 := rfl
/-- May a block be written? -/
def wr (H : Heap) (b : Nat) : Prop := ∃ o, H.get b = some o ∧ o.ro = false
end Heap
/-- The capacity that nobody knows; the number of an element's cells is told above it. -/
def unk : Nat := 36893488147419103232
def plain : Value → Bool
  | .bool _ | .int _ _ | .float _ _ | .complex _ _ _ | .string _ | .pointer none | .slice none _ _ | .map none | .chan none | .nilFunc | .nilIface => true
  | _ => false
def closed : Value → Bool
  | .agg cs => cs.toList.all plain
  | .tuple cs => cs.toList.all plain
  | .func _ f c => f.toList.isEmpty && c.toList.isEmpty
  | v => plain v
/-- Where a named block lies: the block, from which cell, how many cells the block has, how many cells one of its elements has. -/
structure Loc where
  c : Nat
  o : Nat
  sz : Nat
  esz : Nat
  /-- Is it a map? -/
  mp : Bool
abbrev Map := Nat → Option Loc
inductive VR (m : Map) : Value → Value → Prop where
  | same {v : Value} (h : plain v = true) : VR m v v
  | ptr {b off : Nat} {L : Loc} (h : m b = some L) (hl : L.mp = false) : VR m (.pointer (some ⟨b, off, none⟩)) (.pointer (some ⟨L.c, L.o + off, none⟩))
  | map {b : Nat} {L : Loc} (h : m b = some L) (hl : L.mp = true) : VR m (.map (some b)) (.map (some L.c))
  | iter {b : Nat} {L : Loc} (h : m b = some L) (hl : L.mp = true) : VR m (.chan (some b)) (.pointer (some ⟨L.c, 0, none⟩))
  | slice {b off len cap q cap' : Nat} {L : Loc} (h : m b = some L) (hl : L.mp = false)
      (hc : (cap < unk ∧ cap' = cap ∧ q = L.o + off) ∨ (cap = unk + L.esz ∧ len ≤ cap' ∧ q + cap' * L.esz ≤ L.sz ∧ (len = 0 ∨ q = L.o + off))) :
      VR m (.slice (some ⟨b, off, none⟩) len cap) (.slice (some ⟨L.c, q, none⟩) len cap')
  | agg {xs ys : Array Value} (hs : xs.size = ys.size) (h : ∀ i (h1 : i < xs.size) (h2 : i < ys.size), VR m xs[i] ys[i]) : VR m (.agg xs) (.agg ys)
  | tuple {xs ys : Array Value} (hs : xs.size = ys.size) (h : ∀ i (h1 : i < xs.size) (h2 : i < ys.size), VR m xs[i] ys[i]) : VR m (.tuple xs) (.tuple ys)
  | func {fn : Fn} {fs gs cs ds : Array Value} (hs : fs.size = gs.size) (h : ∀ i (h1 : i < fs.size) (h2 : i < gs.size), VR m fs[i] gs[i])
      (ht : cs.size = ds.size) (k : ∀ i (h1 : i < cs.size) (h2 : i < ds.size), VR m cs[i] ds[i]) : VR m (.func fn fs cs) (.func fn gs ds)
  | iface {t : TypeId} {v v' : Value} (h : VR m v v') : VR m (.iface t v) (.iface t v')
def Map.le (m m' : Map) : Prop := ∀ b L, m b = some L → m' b = some L
theorem VR.mono {m m' : Map} (hm : m.le m') {v v' : Value} (h : VR m v v') : VR m' v v' := by
  induction h with
  | same h => exact .same h
  | ptr h hl => exact .ptr (hm _ _ h) hl
  | map h hl => exact .map (hm _ _ h) hl
  | iter h hl => exact .iter (hm _ _ h) hl
  | slice h hl hc => exact .slice (hm _ _ h) hl hc
  | agg hs _ ih => exact .agg hs ih
  | tuple hs _ ih => exact .tuple hs ih
  | func hs _ ht _ ih ih' => exact .func hs ih ht ih'
  | iface _ ih => exact .iface ih
theorem VR.plain_eq {m : Map} {v v' : Value} (h : VR m v v') (hp : plain v = true) : v' = v := by
  cases h <;> simp_all [plain]
theorem VR.closed_eq {m : Map} {v v' : Value} (h : VR m v v') (hp : closed v = true) : v' = v := by
  cases h with
  | same h => rfl
  | ptr h => simp [closed, plain] at hp
  | map h => simp [closed, plain] at hp
  | iter h => simp [closed, plain] at hp
  | slice h => simp [closed, plain] at hp
  | agg hs h =>
    simp only [closed, List.all_eq_true] at hp
    congr 1
    refine Array.ext hs.symm fun i h1 h2 => ?_
    exact (h i h2 h1).plain_eq (hp _ (by simp))
  | tuple hs h =>
    simp only [closed, List.all_eq_true] at hp
    congr 1
    refine Array.ext hs.symm fun i h1 h2 => ?_
    exact (h i h2 h1).plain_eq (hp _ (by simp))
  | func hs h ht k =>
    simp only [closed, Bool.and_eq_true, List.isEmpty_iff, Array.toList_eq_nil_iff] at hp
    obtain ⟨rfl, rfl⟩ := hp
    simp at hs ht
    simp [Array.eq_empty_of_size_eq_zero hs.symm, Array.eq_empty_of_size_eq_zero ht.symm]
  | iface h => simp [closed, plain] at hp
theorem VR.of_closed {m : Map} {v : Value} (hp : closed v = true) : VR m v v := by
  cases v <;> simp only [closed] at hp
  case agg cs =>
    refine .agg rfl fun i h1 h2 => .same ?_
    exact (List.all_eq_true.1 hp) _ (by simp)
  case tuple cs =>
    refine .tuple rfl fun i h1 h2 => .same ?_
    exact (List.all_eq_true.1 hp) _ (by simp)
  case func fn f c =>
    simp only [Bool.and_eq_true, List.isEmpty_iff, Array.toList_eq_nil_iff] at hp
    obtain ⟨rfl, rfl⟩ := hp
    exact .func rfl (fun i h1 => by simp at h1) rfl (fun i h1 => by simp at h1)
  all_goals exact .same hp
/-- What the kernel sees by itself. -/
theorem kr {p : Prop} (h : p := by kernel_rfl) : p := h
end Go.Ev
/- The evaluator: operations, regions, code, calls over named memory. -/
namespace Go.Ev
open Go
set_option linter.unusedVariables false
/-- What is known of a program's types and functions. -/
structure Tab where
  under : TypeId → Option TypeDesc
  size : TypeId → Option Nat
  bytes : TypeId → Option Nat
  zero : TypeId → Option Value
  fn : FuncId → Option Func
  /-- Calls that are known to give data of data, and to change nothing that was there. -/
  orc : FuncId → List Value → Option Value
  /-- Calls (of functions that are not walked) that are known: what they answer, and memory behind them. -/
  mor : FuncId → List Value → Heap → Option (Value × Heap) := fun _ _ _ => none
  /-- Functions that are there, though they are not walked. -/
  has : FuncId → Bool := fun _ => false
/-- May a function be called? -/
def Tab.can (T : Tab) (g : FuncId) : Option Unit := match T.fn g with | some _ => some () | none => bif T.has g then some () else none
def isRow : TypeDesc → Bool
  | .struct _ | .array _ _ => true
  | _ => false
/-- A program's part without memory. -/
def prun {α : Type} (P : Program) : Sem α → Option α
  | .pure a => some a
  | .program k => prun P (k P)
  | _ => none
inductive Res where
  | val (v : Value)
  | skip
  | enter (f : FuncId) (args : Array Value)
section
variable (T : Tab)
def apart (t : TypeId) (cs : Array Value) (off : Nat) : Option Value :=
  match T.under t, T.size t with
  | some d, some n => bif isRow d then some (.agg (cs.extract off (off + n))) else cs[off]?
  | _, _ => none
def aload (t : TypeId) (v : Value) (H : Heap) : Option Value :=
  match v with
  | .pointer (some ⟨b, off, none⟩) =>
    match H.get b, T.under t, T.size t with
    | some o, some d, some n =>
      bif isRow d then
        let l := (o.cells.drop off).take n
        bif l.length.beq n then some (.agg l.toArray) else none
      else o.cells[off]?
    | _, _, _ => none
  | _ => none
def splice (l : List Value) (off : Nat) (cs : List Value) : List Value :=
  match cs with
  | [v] => l.set off v
  | _ => l.take off ++ cs ++ l.drop (off + cs.length)
def one : Value → Bool
  | .agg _ | .tuple _ => false
  | _ => true
/-- Cells into a block, from a cell on. -/
def aput (b off : Nat) (cs : List Value) (H : Heap) : Option Heap :=
  match H.get b with
  | some o => bif !o.ro && cs.all one && (off + cs.length).ble o.cells.length then some (H.put b ⟨splice o.cells off cs, o.elem, false⟩) else none
  | none => none
def astore (t : TypeId) (v x : Value) (H : Heap) : Option Heap :=
  match v with
  | .pointer (some ⟨b, off, none⟩) =>
    match T.size t with
    | some n => bif x.cells.size.beq n then aput b off x.cells.toList H else none
    | none => none
  | _ => none
def ibin (op : BinOp) (k : IntKind) (x y : Int) : Option Value :=
  match op with
  | .add => some (.int k (k.wrap (x + y)))
  | .sub => some (.int k (k.wrap (x - y)))
  | .mul => some (.int k (k.wrap (x * y)))
  | .quo => bif y == 0 then none else some (.int k (k.wrap (x.tdiv y)))
  | .rem => bif y == 0 then none else some (.int k (x.tmod y))
  | .and => some (.int k (k.wrap (BitVec.ofInt k.bits x &&& BitVec.ofInt k.bits y).toNat))
  | .or => some (.int k (k.wrap (BitVec.ofInt k.bits x ||| BitVec.ofInt k.bits y).toNat))
  | .xor => some (.int k (k.wrap (BitVec.ofInt k.bits x ^^^ BitVec.ofInt k.bits y).toNat))
  | .andNot => some (.int k (k.wrap (BitVec.ofInt k.bits x &&& ~~~ BitVec.ofInt k.bits y).toNat))
  | .eql => some (.bool (x == y))
  | .neq => some (.bool (x != y))
  | .lss => some (.bool (x < y))
  | .leq => some (.bool (x ≤ y))
  | .gtr => some (.bool (x > y))
  | .geq => some (.bool (x ≥ y))
  | _ => none
def ishift (op : BinOp) (k : IntKind) (x y : Int) : Option Value :=
  bif decide (y < 0) then none else
  match op with
  | .shl => some (.int k (k.wrap (x * 2 ^ min y.toNat k.bits)))
  | .shr => some (.int k (x.fdiv (2 ^ min y.toNat k.bits)))
  | _ => none
def isShift : BinOp → Bool | .shl | .shr => true | _ => false
def isNilP : Value → Bool | .pointer none => true | _ => false
/-- An operation on two values, where it has a short form here. -/
def abin (op : BinOp) (t : TypeId) (x y : Value) : Option Value :=
  match x, y with
  | .int k a, .int k' b => bif isShift op then ishift op k a b else bif k == k' then ibin op k a b else none
  | .bool a, .bool b =>
    match op, T.under t with
    | .eql, some .bool => some (.bool (a == b))
    | .neq, some .bool => some (.bool (a != b))
    | _, _ => none
  | .pointer none, .pointer b =>
    match op, T.under t with
    | .eql, some (.pointer _) => some (.bool b.isNone)
    | .neq, some (.pointer _) => some (.bool !b.isNone)
    | _, _ => none
  | .pointer (some a), .pointer none =>
    match op, T.under t with
    | .eql, some (.pointer _) => some (.bool false)
    | .neq, some (.pointer _) => some (.bool true)
    | _, _ => none
  | .slice none _ _, .slice b _ _ =>
    match op, T.under t with
    | .eql, some (.slice _) => some (.bool b.isNone)
    | .neq, some (.slice _) => some (.bool !b.isNone)
    | _, _ => none
  | .slice (some _) _ _, .slice none _ _ =>
    match op, T.under t with
    | .eql, some (.slice _) => some (.bool false)
    | .neq, some (.slice _) => some (.bool true)
    | _, _ => none
  | _, _ => none
def aslice (t : TypeId) (x : Value) (lo hi mx : Option Value) : Option Value :=
  match mx with
  | some _ => none
  | none =>
  match T.under t, x with
  | some (.slice e), .slice a len cap =>
    match T.size e, (match lo with | none => some 0 | some (.int _ (.ofNat l)) => some l | _ => none), (match hi with | none => some len | some (.int _ (.ofNat h)) => some h | _ => none) with
    | some size, some l, some h =>
      bif l.ble h then
        bif unk.ble cap then
          match a with
          | some ⟨b, off, none⟩ => bif h.ble len && cap.beq (unk + size) then some (.slice (some ⟨b, off + l * size, none⟩) (h - l) (unk + size)) else none
          | _ => none
        else bif h.ble cap then some (.slice (bif cap.beq l then a else a.map (·.add (l * size))) (h - l) (cap - l)) else none
      else none
    | _, _, _ => none
  | some (.array n e), .pointer (some ⟨b, off, none⟩) =>
    match T.size e, (match lo with | none => some 0 | some (.int _ (.ofNat l)) => some l | _ => none), (match hi with | none => some n | some (.int _ (.ofNat h)) => some h | _ => none) with
    | some size, some l, some h =>
      bif l.ble h && h.ble n && n.blt unk then some (.slice (some (bif n.beq l then ⟨b, off, none⟩ else (⟨b, off, none⟩ : Addr).add (l * size))) (h - l) (n - l)) else none
    | _, _, _ => none
  | _, _ => none
def afield (s : TypeId) (v : Value) (f : Nat) : Option Value :=
  match v, T.under s with
  | .pointer (some ⟨b, off, none⟩), some (.struct fields) =>
    match fields[f]? with
    | some fd => match T.size fd.type with
      | some (_ + 1) => some (.pointer (some ⟨b, off + fd.offset, none⟩))
      | _ => none
    | none => none
  | _, _ => none
def aindexAddr (t : TypeId) (x ix : Value) : Option Value :=
  match ix with
  | .int _ (.ofNat i) =>
    match T.under t, x with
    | some (.slice e), .slice (some ⟨b, off, none⟩) len _ =>
      match T.size e with
      | some n => bif i.blt len then some (.pointer (some ⟨b, off + i * n, none⟩)) else none
      | none => none
    | some (.array len e), .pointer (some ⟨b, off, none⟩) =>
      match T.size e with
      | some n => bif i.blt len then some (.pointer (some ⟨b, off + i * n, none⟩)) else none
      | none => none
    | _, _ => none
  | _ => none
def aindex (t : TypeId) (x ix : Value) : Option Value :=
  match ix with
  | .int _ (.ofNat i) =>
    match T.under t, x with
    | some (.array len e), .agg cs =>
      match T.size e with
      | some n => bif i.blt len then apart T e cs (i * n) else none
      | none => none
    | _, _ => none
  | _ => none
def zerosOf (z : List Value) (n : Nat) : List Value :=
  match z with
  | [v] => List.replicate n v
  | _ => (List.replicate n z).flatten
def nats : Value → Option Nat
  | .int _ (.ofNat n) => some n
  | _ => none
def amakeSlice (t : TypeId) (l c : Value) (H : Heap) : Option (Value × Heap) :=
  match T.under t, nats l, nats c with
  | some (.slice e), some l, some c =>
    match T.bytes e, T.size e, T.zero e with
    | some by_, some (_ + 1), some z => bif l.ble c && (by_ * c).ble 140737488355328 && c.ble 4611686018427387904 && closed z then some (.slice (some ⟨H.n, 0, none⟩) l c, H.push ⟨zerosOf z.cells.toList c, e, false⟩) else none
    | _, _, _ => none
  | _, _, _ => none
/-- Values laid into cells. -/
def afill (T : Tab) (place : Nat → Option (Nat × Nat)) (zero : Array Value) (parts : List (Nat × Value)) : Option (Array Value) := Instr.fill place zero parts
def places (fs : List Field) : Option (List (Nat × Nat)) :=
  match fs with
  | [] => some []
  | f :: r => match T.size f.type, places r with
    | some n, some l => some ((f.offset, n) :: l)
    | _, _ => none
def abuild (t : TypeId) (parts : List (Nat × Value)) : Option Value :=
  match T.under t, T.zero t with
  | some (.struct fields), some z =>
    bif closed z then
    match places T fields.toList with
    | some ps => match Instr.fill (fun i => ps[i]?) z.cells parts with
      | some cs => some (.agg cs)
      | none => none
    | none => none
    else none
  | some (.array _ e), some z =>
    bif closed z then
    match T.size e with
    | some size => match Instr.fill (fun i => some (i * size, size)) z.cells parts with
      | some cs => some (.agg cs)
      | none => none
    | none => none
    else none
  | _, _ => none
def abuildSlice (t : TypeId) (len : Nat) (parts : List (Nat × Value)) (H : Heap) : Option (Value × Heap) :=
  match T.under t with
  | some (.slice e) =>
    match T.size e, T.zero e with
    | some (s + 1), some z =>
      bif (len * (s + 1)).ble 16777216 && closed z && z.cells.size.beq (s + 1) then
      match Instr.fill (fun i => some (i * (s + 1), s + 1)) (zerosOf z.cells.toList len).toArray parts with
      | some cs => some (.slice (some ⟨H.n, 0, none⟩) len len, H.push ⟨cs.toList, e, false⟩)
      | none => none
      else none
    | _, _ => none
  | _ => none
/-- How many elements, and their cells. -/
def asrc (size : Nat) (x : Value) (H : Heap) : Option (Nat × List Value) :=
  match x with
  | .slice none n _ => bif n.beq 0 then some (0, []) else none
  | .slice (some ⟨b, off, none⟩) n _ =>
    match H.get b with
    | some o =>
      let l := (o.cells.drop off).take (n * size)
      bif l.length.beq (n * size) then some (n, l) else none
    | none => none
  | .string s => bif size.beq 1 then some (s.size, s.data.toList.map fun b => .int .u8 b.toNat) else none
  | _ => none
def blockOf : Value → Option Nat
  | .slice (some a) _ _ => some a.block
  | _ => none
def isIntD : TypeDesc → Bool | .int _ => true | _ => false
def aappend (st xt : TypeId) (s x : Value) (H : Heap) : Option (Value × Heap) :=
  match T.under st, T.under xt, s with
  | some (.slice e), some xd, .slice base len cap =>
    bif isIntD xd then none else
    match T.size e, T.bytes e, T.zero e with
    | some (s0 + 1), some (by_ + 1), some _ =>
      match asrc (s0 + 1) x H with
      | some (n, new) =>
        match base with
        | none =>
          bif len.beq 0 && cap.beq 0 then
            bif n.beq 0 then some (s, H) else bif (n * (by_ + 1)).ble 140737488355328 then some (.slice (some ⟨H.n, 0, none⟩) n (unk + (s0 + 1)), H.push ⟨new, e, false⟩) else none
          else none
        | some ⟨b, off, none⟩ =>
          bif blockOf x == some b then none else
          match H.get b with
          | some o =>
            bif o.ro then none else
            bif unk.ble cap then
              bif o.elem.beq e then
              bif n.beq 0 then some (s, H) else
              bif (off + len * (s0 + 1)).ble o.cells.length && new.all one && ((len + n) * (by_ + 1)).ble 140737488355328 then some (.slice (some ⟨H.n, 0, none⟩) (len + n) (unk + (s0 + 1)), (H.kill b).push ⟨(o.cells.drop off).take (len * (s0 + 1)) ++ new, e, false⟩) else none
              else none
            else bif len.beq 0 && cap.beq 0 && n.beq 0 then
              bif o.elem.beq e && off.ble o.cells.length then some (.slice (some ⟨b, off, none⟩) 0 (unk + (s0 + 1)), H) else none
            else bif (len + n).ble cap then
              match aput b (off + len * (s0 + 1)) new H with
              | some H' => some (.slice (some ⟨b, off, none⟩) (len + n) cap, H')
              | none => none
            else bif n.beq 0 then none else
              bif (off + len * (s0 + 1)).ble o.cells.length && ((len + n) * (by_ + 1)).ble 140737488355328 then some (.slice (some ⟨H.n, 0, none⟩) (len + n) (unk + (s0 + 1)), H.push ⟨(o.cells.drop off).take (len * (s0 + 1)) ++ new, e, false⟩) else none
          | none => none
        | _ => none
      | none => none
    | _, _, _ => none
  | _, _, _ => none
/-- As many elements of a source as fit. -/
def atrim (k : Nat) : Value → Option (Nat × Value)
  | .slice a n c => some (Nat.min n k, .slice a (Nat.min n k) c)
  | .string s => some (Nat.min s.size k, .string (s.extract 0 (Nat.min s.size k)))
  | _ => none
def acopy (dt : TypeId) (d x : Value) (H : Heap) : Option (Value × Heap) :=
  match T.under dt, d with
  | some (.slice e), .slice base dlen _ =>
    match T.size e, atrim dlen x with
    | some (s0 + 1), some (n, y) =>
      match asrc (s0 + 1) y H with
      | some (_, []) => some (.int .i64 n, H)
      | some (_, l) => match base with
        | some ⟨b, off, none⟩ => match aput b off l H with | some H' => some (.int .i64 n, H') | none => none
        | _ => none
      | none => none
    | _, _ => none
  | _, _ => none
/-- Bytes as a string. -/
def bytesOf : List Value → Option ByteArray
  | l => go l .empty
where go : List Value → ByteArray → Option ByteArray
  | [], s => some s
  | .int .u8 n :: r, s => go r (s.push (UInt8.ofNat n.toNat))
  | _, _ => none
def isU8 : Option TypeDesc → Bool | some (.int .u8) => true | _ => false
def aconvert (src dst : TypeId) (x : Value) (H : Heap) : Option Value :=
  match T.under src, T.under dst, x with
  | some _, some (.int k), .int _ n => some (.int k (k.wrap n))
  | some (.slice e), some .string, .slice none _ _ => bif isU8 (T.under e) then some (.string .empty) else none
  | some (.slice e), some .string, .slice (some ⟨b, off, none⟩) n _ =>
    bif isU8 (T.under e) then
      match H.get b with
      | some o =>
        let l := (o.cells.drop off).take n
        bif l.length.beq n then (match bytesOf l with | some s => some (.string s) | none => none) else none
      | none => none
    else none
  | _, _, _ => none
end
section
variable (P : Program) (T : Tab)
def aeval (tm : Tr Value) : Operand → Option Value
  | .tmp t => some ((tm.get t).getD undef)
  | .const v => bif closed v then some v else none
  | .func f => some (.func (.func f) #[] #[])
  | .global _ => none
def aevals (tm : Tr Value) : List Operand → Option (List Value)
  | [] => some []
  | x :: r => match aeval tm x, aevals tm r with
    | some v, some l => some (v :: l)
    | _, _ => none
def aevalo (tm : Tr Value) : Option Operand → Option (Option Value)
  | none => some none
  | some x => match aeval tm x with | some v => some (some v) | none => none
def aevalp (tm : Tr Value) : List (Nat × Operand) → Option (List (Nat × Value))
  | [] => some []
  | (i, x) :: r => match aeval tm x, aevalp tm r with
    | some v, some l => some ((i, v) :: l)
    | _, _ => none
def ρ (tm : Tr Value) (x : Operand) : Value := (aeval tm x).getD undef
/-- Where all that an operation looks at is data of its own: the model's own run. -/
def dataAt (tm : Tr Value) (x : Operand) : Bool := match aeval tm x with | some v => closed v | none => false
/-- Are two rows of flat cells the same, field by field? -/
def aeqF (xs ys : Array Value) : List Field → Option Bool
  | [] => some true
  | f :: r => bif f.name == "_" then none else
    match P.underlying f.type, xs[f.offset]?, ys[f.offset]?, aeqF xs ys r with
    | some (.int _), some (.int k a), some (.int k' b), some q => bif k == k' then some ((a == b) && q) else none
    | some .bool, some (.bool a), some (.bool b), some q => some ((a == b) && q)
    | _, _, _, _ => none
def isStr (d : Option TypeDesc) : Bool := match d with | some (.struct _) => true | _ => false
def fsOf (t : TypeId) : List Field := match P.underlying t with | some (.struct fs) => fs.toList | _ => []
def aggEq (tm : Tr Value) (o : Oper) : Option Value :=
  match o.op with
  | .binOp op t a b _ =>
    match op, aeval tm a, aeval tm b with
    | .eql, some (.agg x), some (.agg y) => bif isStr (P.underlying t) && !P.stoodInHeld t && !P.eqGuardType P.depth t then (match aeqF P x y (fsOf P t) with | some q => some (.bool q) | none => none) else none
    | .neq, some (.agg x), some (.agg y) => bif isStr (P.underlying t) && !P.stoodInHeld t && !P.eqGuardType P.depth t then (match aeqF P x y (fsOf P t) with | some q => some (.bool !q) | none => none) else none
    | _, _, _ => none
  | _ => none
def fallback0 (tm : Tr Value) (o : Oper) : Option Value :=
  bif o.op.operands.toList.all (dataAt tm) then
    match prun P (execOp (ρ tm) o) with
    | some (.value v) => bif closed v then some v else none
    | _ => none
  else none
def fallback (tm : Tr Value) (o : Oper) : Option Value := match aggEq P tm o with | some v => bif o.op.operands.toList.all (dataAt tm) then some v else none | none => fallback0 P tm o
def isSelect : Op → Bool | .select .. => true | _ => false
def val (v : Option Value) (H : Heap) : Option (Res × Heap) := match v with | some v => some (.val v, H) | none => none
def val2 (r : Option (Value × Heap)) : Option (Res × Heap) := match r with | some (v, H) => some (.val v, H) | none => none
def skp (r : Option Heap) : Option (Res × Heap) := match r with | some H => some (.skip, H) | none => none
def orVal (v : Option Value) (w : Option Value) : Option Value := match v with | some v => some v | none => w
/-- Are two keys of a map the same? Numbers, and structs of numbers. -/
def keyEq (kt : TypeId) (x y : Value) : Option Bool :=
  match P.underlying kt, x, y with
  | some (.int q), .int k a, .int j b => bif k == q && j == q then some (a == b) else none
  | some (.struct fs), .agg u, .agg v => bif P.stoodInHeld kt then none else aeqF P u v fs.toList
  | _, _, _ => none
/-- What is in a map: a key, its value, when it was laid. -/
abbrev Row := Value × Value × Nat
def mcells (l : List Row) : List Value := l.flatMap fun x => [x.1, x.2.1, .int .i64 (x.2.2 : Nat)]
def mrows : List Value → Option (List Row)
  | [] => some []
  | k :: v :: .int .i64 (.ofNat n) :: r => match mrows r with | some l => some ((k, v, n) :: l) | none => none
  | _ => none
/-- A map: its clock, its rows. -/
def mparse : List Value → Option (Nat × List Row)
  | .int .i64 (.ofNat c) :: r => match mrows r with | some l => some (c, l) | none => none
  | _ => none
def mlay (c : Nat) (l : List Row) : List Value := .int .i64 (c : Nat) :: mcells l
/-- Where a key stands. -/
def mfind (kt : TypeId) (k : Value) : List Row → Nat → Option (Option (Nat × Value × Nat))
  | [], _ => some none
  | (y, v, n) :: r, i => match keyEq P kt k y with
    | some true => bif Instr.sameBits 10000 y k then some (some (i, v, n)) else none
    | some false => mfind kt k r (i + 1)
    | none => none
def mkey (kt : TypeId) (i : Value) : Bool := closed i && (match keyEq P kt i i with | some b => b | none => false)
def mapAt (u : Value) (H : Heap) : Option (Nat × Ob × Nat × List Row) := match u with
  | .map (some b) => match H.get b with
    | some o => match mparse o.cells with
      | some (c, l) => some (b, o, c, l)
      | none => none
    | none => none
  | _ => none
def kts (t : TypeId) : Option (TypeId × TypeId) := match T.under t with | some (.map kt et) => some (kt, et) | _ => none
def alookup (t : TypeId) (ok : Bool) (x i : Value) (H : Heap) : Option Value :=
  match kts T t, mapAt x H with
  | some (kt, et), some (_, _, _, l) => bif mkey P kt i then (match mfind P kt i l 0, T.zero et with
    | some (some (_, v, _)), some _ => some (bif ok then .tuple #[v, .bool true] else v)
    | some none, some z => bif closed z then some (bif ok then .tuple #[z, .bool false] else z) else none
    | _, _ => none) else none
  | _, _ => none
def aupdate (t : TypeId) (x i u : Value) (H : Heap) : Option Heap :=
  match kts T t, mapAt x H with
  | some (kt, _), some (b, o, c, l) => bif o.ro || !mkey P kt i then none else (match mfind P kt i l 0 with
    | some (some (j, _, n)) => some (H.put b ⟨mlay c (l.set j (i, u, n)), o.elem, false⟩)
    | some none => some (H.put b ⟨mlay (c + 1) (l ++ [(i, u, c)]), o.elem, false⟩)
    | none => none)
  | _, _ => none
def aentry (t : TypeId) (x i : Value) (H : Heap) : Option (Value × Heap) :=
  match kts T t, mapAt x H with
  | some (kt, et), some (b, o, c, l) => bif o.ro || !mkey P kt i then none else (match mfind P kt i l 0, T.zero et with
    | some (some (j, v, n)), some _ => some (.tuple #[v, .int .i64 (n : Nat)], H.put b ⟨mlay c (l.set j (i, v, n)), o.elem, false⟩)
    | some none, some z => bif closed z then some (.tuple #[z, .int .i64 (c : Nat)], H.put b ⟨mlay (c + 1) (l ++ [(i, z, c)]), o.elem, false⟩) else none
    | _, _ => none)
  | _, _ => none
def mborn (s : Nat) : List Row → Nat → Option (Nat × Row)
  | [], _ => none
  | x :: r, i => bif Nat.beq x.2.2 s then some (i, x) else mborn s r (i + 1)
def aestore (x st u : Value) (H : Heap) : Option Heap :=
  match mapAt x H, st with
  | some (b, o, c, l), .int _ (.ofNat s) => bif o.ro then none else (match mborn s l 0 with
    | some (j, y) => some (H.put b ⟨mlay c (l.set j (y.1, u, y.2.2)), o.elem, false⟩)
    | none => none)
  | _, _ => none
def adelete (mt : TypeId) (x i : Value) (H : Heap) : Option Heap :=
  match kts T mt, mapAt x H with
  | some (kt, _), some (b, o, c, l) => bif o.ro || !mkey P kt i then none else (match mfind P kt i l 0 with
    | some (some (j, _, _)) => some (H.put b ⟨mlay c (l.eraseIdx j), o.elem, false⟩)
    | some none => some (H.put b ⟨mlay c l, o.elem, false⟩)
    | none => none)
  | _, _ => none
/-- A walk over a map: which map, since when, when it went on last, what was seen. -/
def icells (b since st : Nat) (seen : List Nat) : List Value := .map (some b) :: .int .i64 (since : Nat) :: .int .i64 (st : Nat) :: seen.map fun n => .int .i64 (n : Nat)
def inats : List Value → Option (List Nat)
  | [] => some []
  | .int .i64 (.ofNat n) :: r => match inats r with | some l => some (n :: l) | none => none
  | _ => none
def iparse : List Value → Option (Nat × Nat × Nat × List Nat)
  | .map (some b) :: .int .i64 (.ofNat s) :: .int .i64 (.ofNat q) :: r => match inats r with | some l => some (b, s, q, l) | none => none
  | _ => none
def iterAt (u : Value) (H : Heap) : Option (Nat × Ob × Nat × Nat × Nat × List Nat) := match u with
  | .chan (some i) => match H.get i with
    | some o => match iparse o.cells with
      | some (b, s, q, l) => some (i, o, b, s, q, l)
      | none => none
    | none => none
  | _ => none
def arange (t : TypeId) (x : Value) (H : Heap) : Option (Value × Heap) :=
  match kts T t, mapAt x H with
  | some _, some (b, _, c, _) => some (.chan (some H.n), H.push ⟨icells b c c [], t, false⟩)
  | _, _ => none
def anext (x : Value) (H : Heap) : Option (Value × Heap) :=
  match iterAt x H with
  | some (i, io, b, since, q, seen) => match mapAt (.map (some b)) H with
    | some (_, _, c, l) =>
      bif Nat.ble since q && l.all fun e => Nat.blt e.2.2 since then
      match l.filter fun e => !seen.contains e.2.2 with
      | [] => some (.tuple #[.bool false], H)
      | [e] => some (.tuple #[.bool true, e.1, e.2.1], H.put i ⟨icells b since c (seen ++ [e.2.2]), io.elem, false⟩)
      | _ => none
      else none
    | none => none
  | none => none
def ainow (x : Value) (H : Heap) : Option Value :=
  match iterAt x H with
  | some (_, _, b, _, q, seen) => match mapAt (.map (some b)) H, seen.getLast? with
    | some (_, _, c, l), some s => bif Nat.beq c q then (match mborn s l 0 with | some (_, y) => some (.tuple #[y.1, y.2.1]) | none => none) else none
    | _, _ => none
  | none => none
/-- What a slice holds is made nothing. -/
def aclear (t : TypeId) (a : Option Addr) (n : Nat) (H : Heap) : Option Heap :=
  match n with
  | 0 => some H
  | n + 1 => match T.under t, a with
    | some (.slice e), some ⟨b, off, none⟩ => match T.zero e with
      | some z => bif closed z then aput b off (zerosOf z.cells.toList (n + 1)) H else none
      | none => none
    | _, _ => none
def acall (tm : Tr Value) (o : Oper) (c : Call) (H : Heap) : Option (Res × Heap) :=
  match c.callee with
  | .value f =>
    match aeval tm f, aevals tm c.args.toList with
    | some (.func (.func g) first cap), some l => match T.can g with
      | some _ => some (.enter g (first ++ l.toArray ++ cap), H)
      | none => none
    | _, _ => none
  | .invoke _ _ => none
  | .builtin b =>
    match b, c.argTypes.toList, aevals tm c.args.toList with
    | .append, [st, xt], some [s, x] => val2 (aappend T st xt s x H)
    | .copy, [dt, _], some [d, x] => val2 (acopy T dt d x H)
    | .len, [t], some [.slice _ n _] => match T.under t with | some (.slice _) => some (.val (.int .i64 n), H) | _ => none
    | .len, [t], some [.map (some b)] => match kts T t, mapAt (.map (some b)) H with | some _, some (_, _, _, l) => some (.val (.int .i64 l.length), H) | _, _ => none
    | .delete, [mt, _], some [x, k] => (match adelete P T mt x k H with | some H' => some (.val (.tuple #[]), H') | none => none)
    | .clear, [t], some [.slice a n _] => (match T.under t, aclear T t a n H with | some (.slice _), some H' => some (.val (.tuple #[]), H') | _, _ => none)
    | .clear, _, _ => none
    | .delete, _, _ => none
    | .max, _, some [.int k x, .int _ y] => some (.val (.int k (if y > x then y else x)), H)
    | .min, _, some [.int k x, .int _ y] => some (.val (.int k (if y < x then y else x)), H)
    | .copy, _, _ => none
    | .append, _, _ => none
    | _, _, _ => val (fallback P tm o) H
def amap (tm : Tr Value) (o : Oper) (H : Heap) : Option (Res × Heap) :=
  match o.op with
  | .makeMap t none => some (.val (.map (some H.n)), H.push ⟨mlay 0 [], t, false⟩)
  | .lookup t x i ok => match aeval tm x, aeval tm i with
    | some u, some v => val (alookup P T t ok u v H) H
    | _, _ => none
  | .mapUpdate t x i y => match aeval tm x, aeval tm i, aeval tm y with
    | some u, some v, some z => skp (aupdate P T t u v z H)
    | _, _, _ => none
  | .mapEntry t x i => match aeval tm x, aeval tm i with
    | some u, some v => val2 (aentry P T t u v H)
    | _, _ => none
  | .entryStore _ x s y => match aeval tm x, aeval tm s, aeval tm y with
    | some u, some v, some z => skp (aestore u v z H)
    | _, _, _ => none
  | .range t x => match aeval tm x with
    | some u => val2 (arange T t u H)
    | none => none
  | .next x false => match aeval tm x with
    | some u => val2 (anext u H)
    | none => none
  | .entry x => match aeval tm x with
    | some u => val (ainow u H) H
    | none => none
  | _ => none
def aop (tm : Tr Value) (o : Oper) (H : Heap) : Option (Res × Heap) :=
  match o.op with
  | .move x | .assign x => val (aeval tm x) H
  | .pick c a b => match aeval tm c, aeval tm a, aeval tm b with
    | some (.bool t), some u, some v => some (.val (bif t then u else v), H)
    | _, _, _ => none
  | .alloc e => match T.zero e with
    | some z => bif closed z then some (.val (.pointer (some ⟨H.n, 0, none⟩)), H.push ⟨z.cells.toList, e, false⟩) else none
    | none => none
  | .box e x => match aeval tm x with
    | some v => some (.val (.pointer (some ⟨H.n, 0, none⟩)), H.push ⟨v.cells.toList, e, false⟩)
    | none => none
  | .build t ps => match aevalp tm ps.toList with
    | some l => val (abuild T t l) H
    | none => none
  | .buildSlice t n ps => match aevalp tm ps.toList with
    | some l => val2 (abuildSlice T t n l H)
    | none => none
  | .load t a => match aeval tm a with
    | some v => val (aload T t v H) H
    | none => none
  | .store t a x => match aeval tm a, aeval tm x with
    | some v, some u => skp (astore T t v u H)
    | _, _ => none
  | .nilCheck x => match aeval tm x with
    | some (.pointer (some a)) => some (.val (.pointer (some a)), H)
    | some (.func (.func f) g c) => some (.val (.func (.func f) g c), H)
    | _ => none
  | .binOp op t x y _ => match aeval tm x, aeval tm y with
    | some u, some v => val (orVal (abin T op t u v) (fallback P tm o)) H
    | _, _ => none
  | .unOp .not _ x => match aeval tm x with
    | some (.bool b) => some (.val (.bool !b), H)
    | _ => none
  | .convert s d x => match aeval tm x with
    | some v => val (orVal (aconvert T s d v H) (fallback P tm o)) H
    | none => none
  | .makeFunc fn fs cs => match aevals tm fs.toList, aevals tm cs.toList with
    | some l, some k => some (.val (.func fn l.toArray k.toArray), H)
    | _, _ => none
  | .makeInterface t x => match aeval tm x, T.under t with
    | some _, some (.interface _) => none
    | some v, some _ => some (.val (.iface t v), H)
    | _, _ => none
  | .makeSlice t l c => match aeval tm l, aeval tm c with
    | some u, some v => val2 (amakeSlice T t u v H)
    | _, _ => none
  | .slice t x lo hi mx => match aeval tm x, aevalo tm lo, aevalo tm hi, aevalo tm mx with
    | some v, some l, some h, some m => val (orVal (aslice T t v l h m) (fallback P tm o)) H
    | _, _, _, _ => none
  | .fieldAddr s x f => match aeval tm x with
    | some v => val (afield T s v f) H
    | none => none
  | .field t x f => match aeval tm x, T.under t with
    | some (.agg cs), some (.struct fields) => match fields[f]? with
      | some fd => val (apart T fd.type cs fd.offset) H
      | none => none
    | _, _ => none
  | .indexAddr t x ix => match aeval tm x, aeval tm ix with
    | some u, some v => val (aindexAddr T t u v) H
    | _, _ => none
  | .index t x ix => match aeval tm x, aeval tm ix with
    | some u, some v => val (orVal (aindex T t u v) (fallback P tm o)) H
    | _, _ => none
  | .extract x i => match aeval tm x with
    | some (.tuple vs) => val vs[i]? H
    | _ => none
  | .call c => acall P T tm o c H
  | .unOp .. => val (fallback P tm o) H
  | _ => amap P T tm o H
/-- Is an operation one that reads what lies in memory, or one that may write it? -/
inductive Cls where
  | free | look | act
  deriving DecidableEq
def cls : Op → Cls
  | .load .. => .look
  | .store .. => .act
  | .makeMap .. | .lookup .. | .mapUpdate .. | .mapEntry .. | .entryStore .. | .range .. | .next .. | .entry .. => .act
  | .call c => match c.callee with
    | .value _ | .invoke _ _ | .builtin .append | .builtin .copy | .builtin .delete | .builtin .clear => .act
    | .builtin .len => (match c.argTypes.toList with | [t] => (match T.under t with | some (.map _ _) => .act | _ => .free) | _ => .free)
    | _ => .free
  | .convert s _ _ => match T.under s with
    | some (.slice _) => .look
    | _ => .free
  | _ => .free
def awanted (ops : Array Oper) (tm : Tr Value) (o : Oper) : Bool :=
  match o.guard with
  | none => true
  | some (j, want) => match (ops[j]?).bind (·.dst) with
    | some d => match tm.get d with
      | some (.bool b) => b == want
      | _ => false
    | none => false
structure St where
  tm : Tr Value
  H : Heap
variable (n : Nat) (callf : FuncId → Array Value → Heap → Option (Value × Heap))
def dput (tm : Tr Value) (dst : Option Tmp) (v : Value) : Option (Tr Value) :=
  match dst with
  | none => some tm
  | some d => bif d.blt n then some (tm.put d (some v)) else none
def fin (dst : Option Tmp) (tm : Tr Value) (v : Value) (H : Heap) : Option St :=
  match dput n tm dst v with
  | some tm' => some ⟨tm', H⟩
  | none => none
def step1 (ops : Array Oper) (o : Oper) (s : St) : Option St :=
  bif awanted ops s.tm o then
    match aop P T s.tm o s.H with
    | some (.val v, H) => fin n o.dst s.tm v H
    | some (.skip, H) => fin n o.dst s.tm undef H
    | some (.enter f args, H) => match callf f args H with
      | some (v, H') => fin n o.dst s.tm v H'
      | none => none
    | none => none
  else fin n o.dst s.tm undef s.H
def evOps (ops : Array Oper) : List Oper → St → Option St
  | [], s => some s
  | o :: r, s => match step1 P T n callf ops o s with
    | some s' => evOps ops r s'
    | none => none
/-- The states ahead of each operation, and the last. -/
def evTrace (ops : Array Oper) : List Oper → St → Option (List St)
  | [], s => some [s]
  | o :: r, s => match step1 P T n callf ops o s with
    | some s' => match evTrace ops r s' with
      | some l => some (s :: l)
      | none => none
    | none => none
/-- Are two values that are data the same? -/
def veq0 : Value → Value → Bool
  | .bool a, .bool b => a == b
  | .int j a, .int k b => j == k && a == b
  | .string a, .string b => a.data.toList == b.data.toList
  | .pointer none, .pointer none => true
  | .pointer (some a), .pointer (some b) => a == b
  | .slice none l c, .slice none l' c' => l.beq l' && c.beq c'
  | .slice (some a) l c, .slice (some b) l' c' => a == b && l.beq l' && c.beq c'
  | .map none, .map none => true
  | .map (some a), .map (some b) => a.beq b
  | .nilFunc, .nilFunc => true
  | .nilIface, .nilIface => true
  | _, _ => false
def veqs : List Value → List Value → Bool
  | [], [] => true
  | x :: a, y :: b => veq0 x y && veqs a b
  | _, _ => false
def veq : Value → Value → Bool
  | .agg a, .agg b => veqs a.toList b.toList
  | x, y => veq0 x y
/-- The pairs of a load and an operation that may write, neither of which must come ahead of the other. -/
def loose (ops : Array Oper) : List (Nat × Nat) :=
  let b := Region.before ops
  (List.range ops.size).flatMap fun i => (List.range ops.size).filterMap fun j =>
    match (ops[i]?).map (cls T ·.op), (ops[j]?).map (cls T ·.op) with
    | some .look, some .act => bif i.blt j then (bif (b.getD j 0).testBit i then none else some (i, j)) else (bif (b.getD i 0).testBit j then none else some (i, j))
    | _, _ => none
/-- Where an operation that reads memory looks; what it reads. -/
def lookArg : Op → Option Operand
  | .load _ a => some a
  | .convert _ _ a => some a
  | _ => none
def alook (o : Op) (v : Value) (H : Heap) : Option Value :=
  match o with
  | .load t _ => aload T t v H
  | .convert s d _ => aconvert T s d v H
  | _ => none
/-- A load reads the same ahead of another operation and behind it. -/
def steady (ops : Array Oper) (l : List St) (p : Nat × Nat) : Bool :=
  match l[p.1]?, ops[p.1]? with
  | some s, some o =>
    bif awanted ops s.tm o then
      match lookArg o.op with
      | some a => match aeval s.tm a with
        | some v => match alook T o.op v s.H, l[p.2]?, l[p.2 + 1]? with
          | some u, some s1, some s2 => match alook T o.op v s1.H, alook T o.op v s2.H with
            | some u1, some u2 => veq u1 u && veq u2 u
            | _, _ => false
          | _, _, _ => false
        | none => false
      | none => false
    else true
  | _, _ => false
def evRegion (ops : Array Oper) (draw : Bool) (s : St) : Option St :=
  bif draw then
    match loose T ops with
    | [] => evOps P T n callf ops ops.toList s
    | ps => match evTrace P T n callf ops ops.toList s with
      | some l => bif ps.all (steady T ops l) then l.getLast? else none
      | none => none
  else evOps P T n callf ops ops.toList s
end
inductive Xt where
  | normal | ret | exit (id : Nat)
section
variable (P : Program) (T : Tab)
def initTm : Nat → Array Value → Tr Value
  | _, a => go a.toList 0 .lf
where go : List Value → Nat → Tr Value → Tr Value
  | [], _, t => t
  | v :: r, k, t => go r (k + 1) (t.put k (some v))
def results1 (tm : Tr Value) (H : Heap) : List ResultVar → Option (List Value)
  | [] => some []
  | .tmp t :: r => match results1 tm H r with
    | some l => some (((tm.get t).getD undef) :: l)
    | none => none
  | .cell a t :: r => match aload T t ((tm.get a).getD undef) H, results1 tm H r with
    | some v, some l => some (v :: l)
    | _, _ => none
def aresults (tm : Tr Value) (H : Heap) (rs : Array ResultVar) : Option Value :=
  match results1 T tm H rs.toList with
  | some [v] => some v
  | some l => some (.tuple l.toArray)
  | none => none
def evCode : Nat → Nat → Code → St → Option (Xt × St)
  | 0, _, _, _ => none
  | k + 1, n, .skip, s => some (.normal, s)
  | k + 1, n, .label _, s => some (.normal, s)
  | k + 1, n, .ret, s => some (.ret, s)
  | k + 1, n, .exit i, s => some (.exit i, s)
  | k + 1, n, .region _ ops draw, s =>
    match evRegion P T n (fun f args H => match T.orc f args.toList with
      | some v => some (v, H)
      | none => match T.fn f with
      | some fn => match fn.body with
        | some c => match evCode k (args.size + (fn.ntmps - args.size)) c ⟨initTm 0 args, H⟩ with
          | some (.normal, s') => (match aresults T s'.tm s'.H fn.results with | some v => some (v, s'.H) | none => none)
          | some (.ret, s') => (match aresults T s'.tm s'.H fn.results with | some v => some (v, s'.H) | none => none)
          | _ => none
        | none => none
      | none => T.mor f args.toList H) ops draw s with
    | some s' => some (.normal, s')
    | none => none
  | k + 1, n, .seq a b, s => match evCode k n a s with
    | some (.normal, s') => evCode k n b s'
    | r => r
  | k + 1, n, .cond c a b, s => match aeval s.tm c with
    | some (.bool t) => evCode k n (bif t then a else b) s
    | _ => none
  | k + 1, n, .block id c, s => match evCode k n c s with
    | some (.exit i, s') => bif i.beq id then some (.normal, s') else some (.exit i, s')
    | r => r
  | k + 1, n, .loop c, s => match evCode k n c s with
    | some (.normal, s') => evCode k n (.loop c) s'
    | r => r
  | k + 1, n, .scope c, s => evCode k n c s
  | _, _, _, _ => none
def evBody (k : Nat) (f : FuncId) (args : Array Value) (H : Heap) : Option (Value × Heap) :=
  match T.fn f with
  | some fn => match fn.body with
    | some c => match evCode P T k (args.size + (fn.ntmps - args.size)) c ⟨initTm 0 args, H⟩ with
      | some (.normal, s') => (match aresults T s'.tm s'.H fn.results with | some v => some (v, s'.H) | none => none)
      | some (.ret, s') => (match aresults T s'.tm s'.H fn.results with | some v => some (v, s'.H) | none => none)
      | _ => none
    | none => none
  | none => T.mor f args.toList H
def evCall (k : Nat) (f : FuncId) (args : Array Value) (H : Heap) : Option (Value × Heap) :=
  match T.orc f args.toList with
  | some v => some (v, H)
  | none => evBody P T k f args H
end
end Go.Ev
/- The evaluator's memory and the model's: the relation between them, and how it goes on. -/
namespace Go.Ev
open Go
set_option linter.unusedVariables false
/-- A world that lies below: what is laid in it stays. -/
class Bs where
  W : World
  K : Nat
structure TabOk (P : Program) (T : Tab) : Prop where
  under : ∀ t d, T.under t = some d → P.underlying t = some d
  size : ∀ t n, T.size t = some n → ∃ i, P.info? t = some i ∧ i.size = n
  bytes : ∀ t n, T.bytes t = some n → ∃ i, P.info? t = some i ∧ i.bytes = n
  zero : ∀ t z, T.zero t = some z → ∃ i, P.info? t = some i ∧ i.zero = some z ∧ z.cells.size = i.size ∧ z.cells.all (·.oneCell') = true
section
variable (P : Program)
def CelOk (m : Map) (o : Ob) (L : Loc) (w : World) : Prop :=
  ∃ cs e fz, w.heap[L.c]? = some (.cells cs e fz) ∧ L.o + o.cells.length ≤ cs.size ∧ (∀ i x, o.cells[i]? = some x → ∃ y, cs[L.o + i]? = some y ∧ VR m x y) ∧
    (o.ro = false → fz = (0, 0) ∧ e = o.elem ∧ cs.size = L.sz) ∧ ∃ i, P.info? o.elem = some i ∧ i.size = L.esz
/-- A map, or a walk over one. -/
def MapOk (m : Map) (o : Ob) (L : Loc) (w : World) : Prop :=
  o.ro = false ∧ ((∃ (es : Array MapEntry) (cl : Nat) (l : List Row), w.heap[L.c]? = some (.map es cl) ∧ o.cells = mlay cl l ∧ l.length = es.size ∧ ∀ (i : Nat) (x : Row), l[i]? = some x → ∃ e : MapEntry, es[i]? = some e ∧ (closed x.1 = true ∧ e.key = x.1) ∧ VR m x.2.1 e.val ∧ e.born = x.2.2) ∨
    ∃ (b : Nat) (M : Loc) (since st : Nat) (seen : List Nat), m b = some M ∧ M.mp = true ∧ w.heap[L.c]? = some (.mapIter (some M.c) since seen.toArray st) ∧ o.cells = icells b since st seen)
/-- A block, by what it is. -/
def BlkOk (m : Map) (o : Ob) (L : Loc) (w : World) : Prop := (L.mp = false ∧ CelOk P m o L w) ∨ (L.mp = true ∧ MapOk m o L w)
/-- What lies below is as it was. -/
structure OnBs [Bs] (w : World) : Prop where
  ksz : Bs.K ≤ w.heap.size
  low : ∀ c, c < Bs.K → w.heap[c]? = Bs.W.heap[c]?
/-- What lies below is as it was, and none may write it. -/
structure Bas [Bs] (m : Map) (H : Heap) (w : World) : Prop extends OnBs w where
  own : ∀ b L, m b = some L → H.wr b → Bs.K ≤ L.c
structure Rep0 (m : Map) (H : Heap) (w : World) : Prop where
  dom : ∀ b L, m b = some L → b < H.n
  blk : ∀ b L o, m b = some L → H.get b = some o → BlkOk P m o L w
  inj : ∀ b1 b2 L1 L2, m b1 = some L1 → m b2 = some L2 → H.wr b1 → (H.get b2).isSome → b1 ≠ b2 → L1.c ≠ L2.c
structure Rep [Bs] (m : Map) (H : Heap) (w : World) : Prop extends Rep0 P m H w where
  bas : Bas m H w
end
def owned (m : Map) (H : Heap) (c : Nat) : Prop := ∃ b L, m b = some L ∧ H.wr b ∧ L.c = c
structure Fr (m : Map) (H : Heap) (w : World) (m' : Map) (H' : Heap) (w' : World) : Prop where
  os : w'.os = w.os
  tape : w'.tape = w.tape
  output : w'.output = w.output
  size : w.heap.size ≤ w'.heap.size
  keep : ∀ c, c < w.heap.size → ¬ owned m H c → w'.heap[c]? = w.heap[c]?
  le : m.le m'
  n : H.n ≤ H'.n
  dom : ∀ b L, m' b = some L → m b = some L ∨ H.n ≤ b
  live : ∀ b L, m' b = some L → (H'.get b).isSome → (m b = some L ∧ (H.get b).isSome) ∨ (H.n ≤ b ∧ (owned m H L.c ∨ w.heap.size ≤ L.c))
  wrb : ∀ b, b < H.n → H'.wr b → H.wr b
  lv : ∀ b, b < H.n → (H'.get b).isSome → (H.get b).isSome
  akeep : ∀ b, b < H.n → m b = none → H'.get b = H.get b
theorem Map.le_refl (m : Map) : m.le m := fun _ _ h => h
theorem Map.le_trans {a b c : Map} (h : a.le b) (k : b.le c) : a.le c := fun _ _ x => k _ _ (h _ _ x)
theorem Fr.refl (m : Map) (H : Heap) (w : World) : Fr m H w m H w :=
  ⟨rfl, rfl, rfl, Nat.le_refl _, fun _ _ _ => rfl, Map.le_refl m, Nat.le_refl _, fun _ _ h => .inl h, fun _ _ h k => .inl ⟨h, k⟩, fun _ _ h => h, fun _ _ h => h, fun _ _ _ => rfl⟩
theorem Heap.wr_live {H : Heap} {b : Nat} (h : H.wr b) : (H.get b).isSome := by obtain ⟨o, h, _⟩ := h; simp [h]
theorem Bas.next [Bs] {m m' : Map} {H H' : Heap} {w w' : World} (h : Bas m H w) (hd : ∀ b L, m b = some L → b < H.n) (k : Fr m H w m' H' w') : Bas m' H' w' where
  ksz := Nat.le_trans h.ksz k.size
  low := fun c hc => (k.keep c (Nat.lt_of_lt_of_le hc h.ksz) (by
    rintro ⟨b, L, h1, h2, rfl⟩
    have := h.own b L h1 h2
    omega)).trans (h.low c hc)
  own := fun b L hb hw => by
    rcases k.live b L hb (Heap.wr_live hw) with ⟨h1, _⟩ | ⟨_, h2 | h2⟩
    · exact h.own b L h1 (k.wrb b (hd b L h1) hw)
    · obtain ⟨b', L', h3, h4, h5⟩ := h2
      have := h.own b' L' h3 h4
      omega
    · exact Nat.le_trans h.ksz h2
theorem Rep0.full [Bs] {P : Program} {m m' : Map} {H H' : Heap} {w w' : World} (h1 : Rep0 P m' H' w') (h2 : Fr m H w m' H' w') (hr : Rep P m H w) : Rep P m' H' w' := ⟨h1, hr.bas.next hr.dom h2⟩
theorem Fr.own [Bs] {P : Program} {m m' : Map} {H H' : Heap} {w w' : World} (hr : Rep P m H w) (h : Fr m H w m' H' w') {c : Nat} (ho : owned m' H' c) : owned m H c ∨ w.heap.size ≤ c := by
  obtain ⟨b, L, h1, h2, rfl⟩ := ho
  rcases h.live b L h1 (Heap.wr_live h2) with ⟨k, _⟩ | ⟨_, k | k⟩
  · exact .inl ⟨b, L, k, h.wrb b (hr.dom b L k) h2, rfl⟩
  · exact .inl k
  · exact .inr k
theorem Fr.trans [Bs] {P : Program} {m m' m'' : Map} {H H' H'' : Heap} {w w' w'' : World} (hr : Rep P m H w) (h : Fr m H w m' H' w') (k : Fr m' H' w' m'' H'' w'') : Fr m H w m'' H'' w'' where
  os := k.os.trans h.os
  tape := k.tape.trans h.tape
  output := k.output.trans h.output
  size := Nat.le_trans h.size k.size
  keep := fun c hc ho => by
    refine (k.keep c (Nat.lt_of_lt_of_le hc h.size) fun ho' => ?_).trans (h.keep c hc ho)
    rcases h.own hr ho' with h1 | h1
    · exact ho h1
    · omega
  le := Map.le_trans h.le k.le
  n := Nat.le_trans h.n k.n
  dom := fun b L hb => by
    rcases k.dom b L hb with h1 | h1
    · exact h.dom b L h1
    · exact .inr (Nat.le_trans h.n h1)
  live := fun b L hb hl => by
    rcases k.live b L hb hl with ⟨h1, h2⟩ | ⟨h1, h2 | h2⟩
    · exact h.live b L h1 h2
    · rcases h.own hr h2 with h3 | h3
      · exact .inr ⟨Nat.le_trans h.n h1, .inl h3⟩
      · exact .inr ⟨Nat.le_trans h.n h1, .inr h3⟩
    · exact .inr ⟨Nat.le_trans h.n h1, .inr (Nat.le_trans h.size h2)⟩
  wrb := fun b hb h2 => h.wrb b hb (k.wrb b (Nat.lt_of_lt_of_le hb h.n) h2)
  lv := fun b hb h2 => h.lv b hb (k.lv b (Nat.lt_of_lt_of_le hb h.n) h2)
  akeep := fun b hb h2 => by
    refine (k.akeep b (Nat.lt_of_lt_of_le hb h.n) ?_).trans (h.akeep b hb h2)
    cases hm : m' b with
    | none => rfl
    | some L =>
      rcases h.dom b L hm with h3 | h3
      · rw [h2] at h3; cases h3
      · omega
theorem BlkOk.cel {P : Program} {m : Map} {o : Ob} {L : Loc} {w : World} (h : BlkOk P m o L w) (hl : L.mp = false) : CelOk P m o L w := by
  rcases h with ⟨_, h⟩ | ⟨h, _⟩
  · exact h
  · rw [hl] at h; cases h
theorem BlkOk.mapd {P : Program} {m : Map} {o : Ob} {L : Loc} {w : World} (h : BlkOk P m o L w) (hl : L.mp = true) : MapOk m o L w := by
  rcases h with ⟨h, _⟩ | ⟨_, h⟩
  · rw [hl] at h; cases h
  · exact h
theorem BlkOk.isCel {P : Program} {m : Map} {o : Ob} {L : Loc} {w : World} (h : BlkOk P m o L w) {cs : Array Value} {e : TypeId} {fz : Nat × Nat} (hc : w.heap[L.c]? = some (.cells cs e fz)) : L.mp = false := by
  rcases h with ⟨h, _⟩ | ⟨_, _, ⟨es, cl, l, h, _⟩ | ⟨b, M, s, st, seen, _, _, h, _⟩⟩
  · exact h
  · rw [hc] at h; cases h
  · rw [hc] at h; cases h
theorem BlkOk.mono {P : Program} {m m' : Map} (hm : m.le m') {o : Ob} {L : Loc} {w w' : World} (h : BlkOk P m o L w) (hw : w'.heap[L.c]? = w.heap[L.c]?) : BlkOk P m' o L w' := by
  rcases h with ⟨hl, cs, e, fz, h1, h2, h3, h4⟩ | ⟨hl, hro, ⟨es, cl, l, h1, h2, h3, h4⟩ | ⟨b, M, s, st, seen, h0, h1, h2, h3⟩⟩
  · refine .inl ⟨hl, cs, e, fz, hw.trans h1, h2, fun i x hx => ?_, h4⟩
    obtain ⟨y, hy, hv⟩ := h3 i x hx
    exact ⟨y, hy, hv.mono hm⟩
  · refine .inr ⟨hl, hro, .inl ⟨es, cl, l, hw.trans h1, h2, h3, fun i x hx => ?_⟩⟩
    obtain ⟨e, he, hk, hv, hb⟩ := h4 i x hx
    exact ⟨e, he, hk, hv.mono hm, hb⟩
  · exact .inr ⟨hl, hro, .inr ⟨b, M, s, st, seen, hm _ _ h0, h1, hw.trans h2, h3⟩⟩
theorem BlkOk.lt {P : Program} {m : Map} {o : Ob} {L : Loc} {w : World} (h : BlkOk P m o L w) : L.c < w.heap.size := by
  rcases h with ⟨hl, cs, e, fz, h1, _⟩ | ⟨hl, _, ⟨es, cl, l, h1, _⟩ | ⟨b, M, s, st, seen, _, _, h1, _⟩⟩
  · exact (Array.getElem?_eq_some_iff.1 h1).1
  · exact (Array.getElem?_eq_some_iff.1 h1).1
  · exact (Array.getElem?_eq_some_iff.1 h1).1
/-- A draw. -/
theorem Rep.drew [Bs] {P : Program} {m : Map} {H : Heap} {w : World} (h : Rep P m H w) (k : Nat) : Rep P m H { w with drawn := k } :=
  ⟨⟨h.dom, fun b L o h1 h2 => (h.blk b L o h1 h2).mono (Map.le_refl m) rfl, h.inj⟩, ⟨⟨h.bas.ksz, h.bas.low⟩, h.bas.own⟩⟩
theorem Fr.drew {m m' : Map} {H H' : Heap} {w w' : World} (k : Nat) (h : Fr m H { w with drawn := k } m' H' w') : Fr m H w m' H' w' :=
  ⟨h.os, h.tape, h.output, h.size, h.keep, h.le, h.n, h.dom, h.live, h.wrb, h.lv, h.akeep⟩
theorem Fr.drew' {m m' : Map} {H H' : Heap} {w w' : World} (k : Nat) (h : Fr m H w m' H' w') : Fr m H w m' H' { w' with drawn := k } :=
  ⟨h.os, h.tape, h.output, h.size, h.keep, h.le, h.n, h.dom, h.live, h.wrb, h.lv, h.akeep⟩
def Map.add (m : Map) (b : Nat) (L : Loc) : Map := fun x => if x = b then some L else m x
theorem Map.le_add {m : Map} {b : Nat} {L : Loc} (h : m b = none) : m.le (m.add b L) := fun x K hx => by
  unfold Map.add
  split
  · rename_i e; subst e; rw [h] at hx; cases hx
  · exact hx
theorem Map.add_self (m : Map) (b : Nat) (L : Loc) : m.add b L b = some L := by simp [Map.add]
theorem alloc_old (w : World) (o : Obj) (c : Nat) (hc : c < w.heap.size) : (w.alloc o).heap[c]? = w.heap[c]? := heap_alloc_old w o c hc
theorem alloc_new (w : World) (o : Obj) : (w.alloc o).heap[w.heap.size]? = some o := heap_alloc_new w o
/-- A block more. -/
theorem push_any {P : Program} {m : Map} {H : Heap} {w : World} (hr : Rep0 P m H w) (o : Ob) (ob : Obj) (N : Loc) (hN : N.c = w.heap.size) (hblk : BlkOk P (m.add H.n N) o N (w.alloc ob)) :
    Rep0 P (m.add H.n N) (H.push o) (w.alloc ob) ∧ Fr m H w (m.add H.n N) (H.push o) (w.alloc ob) := by
  have hn : m H.n = none := by
    cases h : m H.n with
    | none => rfl
    | some L => exact absurd (hr.dom _ _ h) (by omega)
  have hle : m.le (m.add H.n N) := Map.le_add hn
  have hcase : ∀ b L, (m.add H.n N) b = some L → (b = H.n ∧ L = N) ∨ (b ≠ H.n ∧ m b = some L) := by
    intro b L h
    unfold Map.add at h
    split at h
    · rename_i e; cases h; exact .inl ⟨e, rfl⟩
    · rename_i e; exact .inr ⟨e, h⟩
  have hold : ∀ c, c < w.heap.size → (w.alloc ob).heap[c]? = w.heap[c]? := fun c hc => heap_alloc_old w _ c hc
  refine ⟨⟨fun b L h => ?_, fun b L o' h h2 => ?_, fun b1 b2 L1 L2 h1 h2 h3 h4 hne => ?_⟩, ⟨rfl, rfl, rfl, by simp, fun c hc _ => hold c hc, hle, by simp [Heap.n_push], fun b L h => ?_, fun b L h h2 => ?_, fun b hb h2 => ?_, fun b hb h2 => ?_, fun b hb _ => by rw [Heap.get_push, if_neg (by omega)]⟩⟩
  · rcases hcase b L h with ⟨rfl, _⟩ | ⟨_, h⟩
    · simp [Heap.n_push]
    · have := hr.dom b L h; simp [Heap.n_push]; omega
  · rw [Heap.get_push] at h2
    rcases hcase b L h with ⟨rfl, rfl⟩ | ⟨hb, h⟩
    · simp at h2
      subst h2
      exact hblk
    · rw [if_neg hb] at h2
      have := hr.blk b L o' h h2
      exact this.mono hle (hold _ this.lt)
  · have hw1 : ∀ b L, m b = some L → (H.get b).isSome → L.c < w.heap.size := fun b L h h' => by
      obtain ⟨o', ho'⟩ := Option.isSome_iff_exists.1 h'
      exact (hr.blk b L o' h ho').lt
    have hg : ∀ b, b ≠ H.n → (H.push o).get b = H.get b := fun b hb => by rw [Heap.get_push, if_neg hb]
    rcases hcase b1 L1 h1 with ⟨e1, e1'⟩ | ⟨hb1, g1⟩
    · rcases hcase b2 L2 h2 with ⟨e2, _⟩ | ⟨hb2, g2⟩
      · exact absurd (e1.trans e2.symm) hne
      · rw [hg _ hb2] at h4
        have := hw1 _ _ g2 h4
        rw [e1']; omega
    · rcases hcase b2 L2 h2 with ⟨_, e2'⟩ | ⟨hb2, g2⟩
      · have h5 := Heap.wr_live h3
        rw [hg _ hb1] at h5
        have := hw1 _ _ g1 h5
        rw [e2']; omega
      · rw [hg _ hb2] at h4
        have h3' : H.wr b1 := by obtain ⟨q, hq, hq2⟩ := h3; exact ⟨q, by rw [← hg _ hb1]; exact hq, hq2⟩
        exact hr.inj b1 b2 L1 L2 g1 g2 h3' h4 hne
  · rcases hcase b L h with ⟨rfl, _⟩ | ⟨_, h⟩
    · exact .inr (Nat.le_refl _)
    · exact .inl h
  · rcases hcase b L h with ⟨e1, e1'⟩ | ⟨hb, h⟩
    · exact .inr ⟨Nat.le_of_eq e1.symm, .inr (by rw [e1', hN]; exact Nat.le_refl _)⟩
    · rw [Heap.get_push, if_neg hb] at h2
      exact .inl ⟨h, h2⟩
  · obtain ⟨q, hq, hq2⟩ := h2
    rw [Heap.get_push, if_neg (by omega)] at hq
    exact ⟨q, hq, hq2⟩
  · rw [Heap.get_push, if_neg (by omega)] at h2
    exact h2
theorem push_sound0 {P : Program} {m : Map} {H : Heap} {w : World} (hr : Rep0 P m H w) (o : Ob) (cs : Array Value) (hro : o.ro = false) (i : TypeInfo) (hi : P.info? o.elem = some i)
    (hl : o.cells.length ≤ cs.size) (hc : ∀ (k : Nat) (x : Value), o.cells[k]? = some x → ∃ y, cs[k]? = some y ∧ VR m x y) :
    Rep0 P (m.add H.n ⟨w.heap.size, 0, cs.size, i.size, false⟩) (H.push o) (w.alloc (.cells cs o.elem)) ∧ Fr m H w (m.add H.n ⟨w.heap.size, 0, cs.size, i.size, false⟩) (H.push o) (w.alloc (.cells cs o.elem)) := by
  have hn : m H.n = none := by
    cases h : m H.n with
    | none => rfl
    | some L => exact absurd (hr.dom _ _ h) (by omega)
  refine push_any hr o _ _ rfl (.inl ⟨rfl, cs, o.elem, (0, 0), heap_alloc_new w _, by simpa using hl, fun k x hx => ?_, fun _ => ⟨rfl, rfl, rfl⟩, i, hi, rfl⟩)
  obtain ⟨y, hy, hv⟩ := hc k x hx
  exact ⟨y, by simpa using hy, hv.mono (Map.le_add hn)⟩
theorem push_sound [Bs] {P : Program} {m : Map} {H : Heap} {w : World} (hr : Rep P m H w) (o : Ob) (cs : Array Value) (hro : o.ro = false) (i : TypeInfo) (hi : P.info? o.elem = some i)
    (hl : o.cells.length ≤ cs.size) (hc : ∀ (k : Nat) (x : Value), o.cells[k]? = some x → ∃ y, cs[k]? = some y ∧ VR m x y) :
    Rep P (m.add H.n ⟨w.heap.size, 0, cs.size, i.size, false⟩) (H.push o) (w.alloc (.cells cs o.elem)) ∧ Fr m H w (m.add H.n ⟨w.heap.size, 0, cs.size, i.size, false⟩) (H.push o) (w.alloc (.cells cs o.elem)) := by
  obtain ⟨h1, h2⟩ := push_sound0 hr.toRep0 o cs hro i hi hl hc
  exact ⟨h1.full h2 hr, h2⟩
/-- A block that is written. -/
theorem put_any {P : Program} {m : Map} {H : Heap} {w w' : World} (hr : Rep0 P m H w) {b : Nat} {L : Loc} {o : Ob} (hb : m b = some L) (ho : H.get b = some o) (hro : o.ro = false) (cells' : List Value)
    (hother : ∀ c, c ≠ L.c → w'.heap[c]? = w.heap[c]?) (e1 : w'.os = w.os) (e2 : w'.tape = w.tape) (e3 : w'.output = w.output) (e4 : w'.heap.size = w.heap.size) (hblk : BlkOk P m ⟨cells', o.elem, false⟩ L w') :
    Rep0 P m (H.put b ⟨cells', o.elem, false⟩) w' ∧ Fr m H w m (H.put b ⟨cells', o.elem, false⟩) w' := by
  have hwr : H.wr b := ⟨o, ho, hro⟩
  have hget : ∀ x, (H.put b ⟨cells', o.elem, false⟩).get x = if x = b then some ⟨cells', o.elem, false⟩ else H.get x := fun x => Heap.get_put _ _ _ _
  have hlv : ∀ x, ((H.put b ⟨cells', o.elem, false⟩).get x).isSome → (H.get x).isSome := fun x h => by
    rw [hget] at h
    split at h
    · rename_i e; subst e; simp [ho]
    · exact h
  have hw2 : ∀ x, (H.put b ⟨cells', o.elem, false⟩).wr x → H.wr x := fun x h => by
    obtain ⟨q, hq, hq2⟩ := h
    rw [hget] at hq
    split at hq
    · rename_i e; subst e; exact hwr
    · exact ⟨q, hq, hq2⟩
  refine ⟨⟨hr.dom, fun x K o' h h2 => ?_, fun b1 b2 L1 L2 h1 h2 h3 h4 hne => hr.inj b1 b2 L1 L2 h1 h2 (hw2 _ h3) (hlv _ h4) hne⟩,
    ⟨e1, e2, e3, Nat.le_of_eq e4.symm, fun c hc hn => hother c (fun e => hn ⟨b, L, hb, hwr, e.symm⟩), Map.le_refl m, Nat.le_refl _, fun _ _ h => .inl h, fun x K h h2 => .inl ⟨h, hlv _ h2⟩, fun x _ h => hw2 x h, fun x _ h => hlv x h, fun x _ h => (by
      rw [hget]
      split
      · rename_i e; subst e; rw [hb] at h; cases h
      · rfl)⟩⟩
  rw [hget] at h2
  split at h2
  · rename_i e
    subst e
    cases h2
    rw [hb] at h
    cases h
    exact hblk
  · rename_i e
    have := hr.blk x K o' h h2
    exact this.mono (Map.le_refl m) (hother _ (Ne.symm (hr.inj b x L K hb h hwr (by simp [h2]) (Ne.symm e))))
/-- Cells of a block that may be written. -/
theorem put_sound0 {P : Program} {m : Map} {H : Heap} {w : World} (hr : Rep0 P m H w) {b : Nat} {L : Loc} {o : Ob} (hb : m b = some L) (ho : H.get b = some o) (hro : o.ro = false) {cs : Array Value} (hcs : w.heap[L.c]? = some (.cells cs o.elem (0, 0)))
    (cells' : List Value) (hlen : cells'.length = o.cells.length) (cs' : Array Value) (hsz : cs'.size = cs.size)
    (hc : ∀ (k : Nat) (x : Value), cells'[k]? = some x → ∃ y, cs'[L.o + k]? = some y ∧ VR m x y) :
    Rep0 P m (H.put b ⟨cells', o.elem, false⟩) (w.setRow L.c cs') ∧ Fr m H w m (H.put b ⟨cells', o.elem, false⟩) (w.setRow L.c cs') := by
  have hmp := (hr.blk b L o hb ho).isCel hcs
  obtain ⟨cs0, e0, fz0, k1, k2, k3, k4⟩ := (hr.blk b L o hb ho).cel hmp
  rw [hcs] at k1
  injection k1 with k1
  injection k1 with q1 q2 q3
  subst q1 q2 q3
  exact put_any hr hb ho hro cells' (fun c hc => setRow_other w L.c c _ hc) rfl rfl rfl (by simp [World.setRow]) (.inl ⟨hmp, cs', o.elem, (0, 0), setRow_heap w L.c cs _ _ _ hcs, by simp only [hlen, hsz]; exact k2, hc, fun _ => ⟨rfl, rfl, hsz.trans (k4.1 hro).2.2⟩, k4.2⟩)
theorem put_sound [Bs] {P : Program} {m : Map} {H : Heap} {w : World} (hr : Rep P m H w) {b : Nat} {L : Loc} {o : Ob} (hb : m b = some L) (ho : H.get b = some o) (hro : o.ro = false) {cs : Array Value} (hcs : w.heap[L.c]? = some (.cells cs o.elem (0, 0)))
    (cells' : List Value) (hlen : cells'.length = o.cells.length) (cs' : Array Value) (hsz : cs'.size = cs.size)
    (hc : ∀ (k : Nat) (x : Value), cells'[k]? = some x → ∃ y, cs'[L.o + k]? = some y ∧ VR m x y) :
    Rep P m (H.put b ⟨cells', o.elem, false⟩) (w.setRow L.c cs') ∧ Fr m H w m (H.put b ⟨cells', o.elem, false⟩) (w.setRow L.c cs') := by
  obtain ⟨h1, h2⟩ := put_sound0 hr.toRep0 hb ho hro hcs cells' hlen cs' hsz hc
  exact ⟨h1.full h2 hr, h2⟩
/-- A block that is not asked for any more: another lies where it lay. -/
theorem take_sound0 {P : Program} {m : Map} {H : Heap} {w : World} (hr : Rep0 P m H w) {b : Nat} {L : Loc} {o : Ob} (hb : m b = some L) (ho : H.get b = some o) (hro : o.ro = false) {cs : Array Value} (hcs : w.heap[L.c]? = some (.cells cs o.elem (0, 0)))
    (cells' : List Value) (q : Nat) (cs' : Array Value) (hsz : cs'.size = cs.size) (hlen : q + cells'.length ≤ cs.size)
    (hc : ∀ (k : Nat) (x : Value), cells'[k]? = some x → ∃ y, cs'[q + k]? = some y ∧ VR m x y) :
    Rep0 P (m.add H.n ⟨L.c, q, L.sz, L.esz, false⟩) ((H.kill b).push ⟨cells', o.elem, false⟩) (w.setRow L.c cs') ∧ Fr m H w (m.add H.n ⟨L.c, q, L.sz, L.esz, false⟩) ((H.kill b).push ⟨cells', o.elem, false⟩) (w.setRow L.c cs') := by
  have hwr : H.wr b := ⟨o, ho, hro⟩
  have hbn := hr.dom b L hb
  have hn : m H.n = none := by
    cases h : m H.n with
    | none => rfl
    | some L => exact absurd (hr.dom _ _ h) (by omega)
  have hle : m.le (m.add H.n ⟨L.c, q, L.sz, L.esz, false⟩) := Map.le_add hn
  have hother : ∀ c, c ≠ L.c → (w.setRow L.c cs').heap[c]? = w.heap[c]? := fun c hc => setRow_other w L.c c _ hc
  have hcase : ∀ x K, (m.add H.n ⟨L.c, q, L.sz, L.esz, false⟩) x = some K → (x = H.n ∧ K = ⟨L.c, q, L.sz, L.esz, false⟩) ∨ (x ≠ H.n ∧ m x = some K) := by
    intro x K h
    unfold Map.add at h
    split at h
    · rename_i e; cases h; exact .inl ⟨e, rfl⟩
    · rename_i e; exact .inr ⟨e, h⟩
  have hget : ∀ x, ((H.kill b).push ⟨cells', o.elem, false⟩).get x = if x = H.n then some ⟨cells', o.elem, false⟩ else if x = b then none else H.get x := fun x => by
    rw [Heap.get_push, Heap.n_kill, Heap.get_kill]
  have hlv : ∀ x, x ≠ H.n → (((H.kill b).push ⟨cells', o.elem, false⟩).get x).isSome → x ≠ b ∧ (H.get x).isSome := fun x hx h => by
    rw [hget, if_neg hx] at h
    split at h
    · simp at h
    · rename_i e; exact ⟨e, h⟩
  have hw2 : ∀ x, x ≠ H.n → ((H.kill b).push ⟨cells', o.elem, false⟩).wr x → x ≠ b ∧ H.wr x := fun x hx h => by
    obtain ⟨p, hq, hq2⟩ := h
    rw [hget, if_neg hx] at hq
    split at hq
    · cases hq
    · rename_i e; exact ⟨e, p, hq, hq2⟩
  have hmp := (hr.blk b L o hb ho).isCel hcs
  obtain ⟨cs0, e0, fz0, k1, k2, k3, k4⟩ := (hr.blk b L o hb ho).cel hmp
  rw [hcs] at k1
  injection k1 with k1
  injection k1 with q1 q2 q3
  subst q1 q2 q3
  refine ⟨⟨fun x K h => ?_, fun x K o' h h2 => ?_, fun b1 b2 L1 L2 h1 h2 h3 h4 hne => ?_⟩,
    ⟨rfl, rfl, rfl, by simp [World.setRow], fun c hc hn => hother c (fun e => hn ⟨b, L, hb, hwr, e.symm⟩), hle, by simp [Heap.n_push, Heap.n_kill], fun x K h => ?_, fun x K h h2 => ?_, fun x hx h => (hw2 x (by omega) h).2, fun x hx h => (hlv x (by omega) h).2, fun x hx h => by
      rw [hget, if_neg (by omega)]
      split
      · rename_i e; subst e; rw [hb] at h; cases h
      · rfl⟩⟩
  · rcases hcase x K h with ⟨rfl, _⟩ | ⟨_, h⟩
    · simp [Heap.n_push, Heap.n_kill]
    · have := hr.dom x K h; simp [Heap.n_push, Heap.n_kill]; omega
  · rcases hcase x K h with ⟨rfl, rfl⟩ | ⟨hx, h⟩
    · rw [hget, if_pos rfl] at h2
      cases h2
      refine .inl ⟨rfl, cs', o.elem, (0, 0), setRow_heap w L.c cs _ _ _ hcs, by simp only [hsz]; exact hlen, fun k x hx => ?_, fun _ => ⟨rfl, rfl, hsz.trans (k4.1 hro).2.2⟩, k4.2⟩
      obtain ⟨y, hy, hv⟩ := hc k x hx
      exact ⟨y, hy, hv.mono hle⟩
    · have hl := hlv x hx (by simp [h2])
      rw [hget, if_neg hx, if_neg hl.1] at h2
      have := hr.blk x K o' h h2
      exact this.mono hle (hother _ (Ne.symm (hr.inj b x L K hb h hwr hl.2 (Ne.symm hl.1))))
  · rcases hcase b1 L1 h1 with ⟨rfl, rfl⟩ | ⟨hb1, h1⟩
    · rcases hcase b2 L2 h2 with ⟨rfl, rfl⟩ | ⟨hb2, h2⟩
      · exact absurd rfl hne
      · have := hlv b2 hb2 h4
        exact hr.inj b b2 L L2 hb h2 hwr this.2 (Ne.symm this.1)
    · rcases hcase b2 L2 h2 with ⟨rfl, rfl⟩ | ⟨hb2, h2⟩
      · have := hw2 b1 hb1 h3
        exact hr.inj b1 b L1 L h1 hb this.2 (by simp [ho]) this.1
      · exact hr.inj b1 b2 L1 L2 h1 h2 (hw2 b1 hb1 h3).2 (hlv b2 hb2 h4).2 hne
  · rcases hcase x K h with ⟨rfl, _⟩ | ⟨_, h⟩
    · exact .inr (Nat.le_refl _)
    · exact .inl h
  · rcases hcase x K h with ⟨rfl, rfl⟩ | ⟨hx, h⟩
    · exact .inr ⟨Nat.le_refl _, .inl ⟨b, L, hb, hwr, rfl⟩⟩
    · exact .inl ⟨h, (hlv x hx h2).2⟩
theorem take_sound [Bs] {P : Program} {m : Map} {H : Heap} {w : World} (hr : Rep P m H w) {b : Nat} {L : Loc} {o : Ob} (hb : m b = some L) (ho : H.get b = some o) (hro : o.ro = false) {cs : Array Value} (hcs : w.heap[L.c]? = some (.cells cs o.elem (0, 0)))
    (cells' : List Value) (q : Nat) (cs' : Array Value) (hsz : cs'.size = cs.size) (hlen : q + cells'.length ≤ cs.size)
    (hc : ∀ (k : Nat) (x : Value), cells'[k]? = some x → ∃ y, cs'[q + k]? = some y ∧ VR m x y) :
    Rep P (m.add H.n ⟨L.c, q, L.sz, L.esz, false⟩) ((H.kill b).push ⟨cells', o.elem, false⟩) (w.setRow L.c cs') ∧ Fr m H w (m.add H.n ⟨L.c, q, L.sz, L.esz, false⟩) ((H.kill b).push ⟨cells', o.elem, false⟩) (w.setRow L.c cs') := by
  obtain ⟨h1, h2⟩ := take_sound0 hr.toRep0 hb ho hro hcs cells' q cs' hsz hlen hc
  exact ⟨h1.full h2 hr, h2⟩
end Go.Ev
/- Each operation of the evaluator is the model's: loads, stores, what is made, what is computed. -/
namespace Go.Ev
open Go
set_option linter.unusedVariables false
set_option linter.unusedSimpArgs false
theorem one_eq (v : Value) : one v = v.oneCell' := by cases v <;> rfl
theorem VR.one {m : Map} {v v' : Value} (h : VR m v v') (h1 : one v = true) : v'.oneCell' = true := by
  cases h <;> simp_all [Ev.one, Value.oneCell']
  rename_i h; cases v <;> simp_all [Ev.one, Value.oneCell', plain]
theorem plain_one {v : Value} (h : plain v = true) : v.oneCell' = true := by cases v <;> simp_all [plain, Value.oneCell']
/-- What a value's cells are. -/
theorem VR.cells {m : Map} {v v' : Value} (h : VR m v v') : v'.cells.size = v.cells.size ∧ ∀ (i : Nat) (x : Value), v.cells[i]? = some x → ∃ y, v'.cells[i]? = some y ∧ VR m x y := by
  have key : ∀ u u', VR m u u' → u.cells = #[u] → u'.cells = #[u'] → u'.cells.size = u.cells.size ∧ ∀ (i : Nat) (x : Value), u.cells[i]? = some x → ∃ y, u'.cells[i]? = some y ∧ VR m x y := by
    intro u u' hu h1 h2
    rw [h1, h2]
    refine ⟨rfl, fun i x hx => ?_⟩
    cases i with
    | zero => simp at hx; subst hx; exact ⟨u', by simp, hu⟩
    | succ i => simp at hx
  cases h with
  | agg hs h =>
    refine ⟨hs.symm, fun i x hx => ?_⟩
    obtain ⟨h1, h2⟩ := Array.getElem?_eq_some_iff.1 hx
    simp only [Value.cells] at h1 h2 ⊢
    subst h2
    exact ⟨_, Array.getElem?_eq_getElem (by omega), h i h1 (by omega)⟩
  | same h => exact key _ _ (.same h) (by cases v <;> first | rfl | simp [plain] at h) (by cases v <;> first | rfl | simp [plain] at h)
  | ptr h hl => exact key _ _ (.ptr h hl) rfl rfl
  | map h hl => exact key _ _ (.map h hl) rfl rfl
  | iter h hl => exact key _ _ (.iter h hl) rfl rfl
  | slice h hl hc => exact key _ _ (.slice h hl hc) rfl rfl
  | tuple hs h => exact key _ _ (.tuple hs h) rfl rfl
  | func hs h ht k => exact key _ _ (.func hs h ht k) rfl rfl
  | iface h => exact key _ _ (.iface h) rfl rfl
/-- Two rows of values that go together. -/
def VRs (m : Map) (xs ys : List Value) : Prop := xs.length = ys.length ∧ ∀ (i : Nat) (x : Value), xs[i]? = some x → ∃ y, ys[i]? = some y ∧ VR m x y
theorem VRs.nil {m : Map} : VRs m [] [] := ⟨rfl, fun i x h => by simp at h⟩
theorem VRs.cons {m : Map} {x y : Value} {xs ys : List Value} (h : VR m x y) (k : VRs m xs ys) : VRs m (x :: xs) (y :: ys) :=
  ⟨by simp [k.1], fun i z hz => by cases i with
    | zero => simp at hz; subst hz; exact ⟨y, by simp, h⟩
    | succ i => simpa using k.2 i z (by simpa using hz)⟩
theorem VRs.mono {m m' : Map} (hm : m.le m') {xs ys : List Value} (h : VRs m xs ys) : VRs m' xs ys :=
  ⟨h.1, fun i x hx => by obtain ⟨y, hy, hv⟩ := h.2 i x hx; exact ⟨y, hy, hv.mono hm⟩⟩
theorem VRs.arr {m : Map} {xs ys : Array Value} (h : VRs m xs.toList ys.toList) : xs.size = ys.size ∧ ∀ i (h1 : i < xs.size) (h2 : i < ys.size), VR m xs[i] ys[i] := by
  refine ⟨by simpa using h.1, fun i h1 h2 => ?_⟩
  obtain ⟨y, hy, hv⟩ := h.2 i xs[i] (by simp [h1])
  have : y = ys[i] := by simp [h2] at hy; exact hy.symm
  subst this; exact hv
theorem VRs.of_arr {m : Map} {xs ys : Array Value} (hs : xs.size = ys.size) (h : ∀ i (h1 : i < xs.size) (h2 : i < ys.size), VR m xs[i] ys[i]) : VRs m xs.toList ys.toList :=
  ⟨by simpa using hs, fun i x hx => by
    obtain ⟨h1, h2⟩ := List.getElem?_eq_some_iff.1 hx
    simp at h1 h2; subst h2
    exact ⟨ys[i]'(by omega), by simp [show i < ys.size by omega], h i h1 (by omega)⟩⟩
theorem VRs.append {m : Map} {xs ys us vs : List Value} (h : VRs m xs ys) (k : VRs m us vs) : VRs m (xs ++ us) (ys ++ vs) := by
  refine ⟨by simp [h.1, k.1], fun i x hx => ?_⟩
  by_cases hi : i < xs.length
  · rw [List.getElem?_append_left hi] at hx
    rw [List.getElem?_append_left (by rw [← h.1]; exact hi)]
    exact h.2 i x hx
  · rw [List.getElem?_append_right (by omega)] at hx
    rw [List.getElem?_append_right (by rw [← h.1]; omega), ← h.1]
    exact k.2 _ x hx
theorem VRs.drop {m : Map} {xs ys : List Value} (h : VRs m xs ys) (n : Nat) : VRs m (xs.drop n) (ys.drop n) :=
  ⟨by simp [h.1], fun i x hx => by rw [List.getElem?_drop] at hx ⊢; exact h.2 _ x hx⟩
theorem VRs.take {m : Map} {xs ys : List Value} (h : VRs m xs ys) (n : Nat) : VRs m (xs.take n) (ys.take n) :=
  ⟨by simp [h.1], fun i x hx => by
    rw [List.getElem?_take] at hx ⊢
    split at hx
    · rw [if_pos ‹_›]; exact h.2 _ x hx
    · cases hx⟩
theorem VRs.set {m : Map} {xs ys : List Value} (h : VRs m xs ys) (n : Nat) {v v' : Value} (hv : VR m v v') : VRs m (xs.set n v) (ys.set n v') :=
  ⟨by simp [h.1], fun i x hx => by
    rw [List.getElem?_set] at hx ⊢
    split at hx
    · split at hx
      · cases hx; rw [if_pos ‹_›, if_pos (by rw [← h.1]; assumption)]; exact ⟨v', rfl, hv⟩
      · cases hx
    · rw [if_neg ‹_›]; exact h.2 _ x hx⟩
theorem VRs.agg {m : Map} {xs ys : Array Value} (h : VRs m xs.toList ys.toList) : VR m (.agg xs) (.agg ys) := .agg h.arr.1 h.arr.2
theorem VRs.of_closed {m : Map} {l : List Value} (h : l.all plain = true) : VRs m l l :=
  ⟨rfl, fun i x hx => ⟨x, hx, .same (List.all_eq_true.1 h x (List.mem_of_getElem? hx))⟩⟩
theorem VRs.one {m : Map} {xs ys : List Value} (h : VRs m xs ys) (h1 : xs.all Ev.one = true) : ∀ u ∈ ys, u.oneCell' = true := by
  intro u hu
  obtain ⟨i, hi⟩ := List.mem_iff_getElem?.1 hu
  have hlt := (List.getElem?_eq_some_iff.1 hi).1
  obtain ⟨y, hy, hv⟩ := h.2 i (xs[i]'(by rw [h.1]; exact hlt)) (by simp)
  rw [hi] at hy; cases hy
  exact hv.one (List.all_eq_true.1 h1 _ (by simp))
theorem VRs.cells {m : Map} {v v' : Value} (h : VR m v v') : VRs m v.cells.toList v'.cells.toList :=
  ⟨by simpa using h.cells.1.symm, fun i x hx => by obtain ⟨y, hy, hv⟩ := h.cells.2 i x (by simpa using hx); exact ⟨y, by simpa using hy, hv⟩⟩
/-- What a block's cells are in memory. -/
theorem CelOk.row {P : Program} {m : Map} {o : Ob} {L : Loc} {w : World} (h : CelOk P m o L w) : ∃ l, VRs m o.cells l ∧ (∀ (i : Nat) (y : Value), l[i]? = some y → w.cell? ⟨L.c, L.o + i, none⟩ = some y) := by
  obtain ⟨cs, e, fz, h1, h2, h3, h4⟩ := h
  refine ⟨(cs.toList.drop L.o).take o.cells.length, ⟨by simp; omega, fun i x hx => ?_⟩, fun i y hy => ?_⟩
  · obtain ⟨y, hy, hv⟩ := h3 i x hx
    have hi := (List.getElem?_eq_some_iff.1 hx).1
    exact ⟨y, by rw [List.getElem?_take, if_pos hi, List.getElem?_drop]; simpa using hy, hv⟩
  · rw [List.getElem?_take] at hy
    split at hy
    · rw [List.getElem?_drop] at hy
      simp [World.cell?, h1]; simpa using hy
    · cases hy
section
variable {P : Program} {T : Tab} (hT : TabOk P T) {m : Map} {H : Heap} {w : World}
include hT
theorem run_isAgg {t : TypeId} {d : TypeDesc} (h : T.under t = some d) : (Go.isAgg t).run P w = .ok (isRow d) w := by
  unfold Go.isAgg
  rw [Sem.run_bind, run_underlying (hT.under t d h) w]
  cases d <;> simp [isRow]
theorem run_size {t : TypeId} {n : Nat} (h : T.size t = some n) : (Go.sizeOf t).run P w = .ok n w := by
  obtain ⟨i, h1, h2⟩ := hT.size t n h
  simp [Go.sizeOf, typeInfo, h1, h2]
theorem run_under {t : TypeId} {d : TypeDesc} (h : T.under t = some d) : (Go.underlying t).run P w = .ok d w := run_underlying (hT.under t d h) w
theorem apart_sound {t : TypeId} {xs ys : Array Value} {off : Nat} {v : Value} (h : apart T t xs off = some v) (hv : VRs m xs.toList ys.toList) :
    ∃ v', (Go.part t ys off).run P w = .ok v' w ∧ VR m v v' := by
  unfold apart at h
  split at h
  · rename_i d n hd hn
    cases hr : isRow d
    · rw [hr] at h
      simp only [cond_false] at h
      obtain ⟨y, hy, hvy⟩ := hv.2 off v (by simpa using h)
      refine ⟨y, ?_, hvy⟩
      simp only [Array.getElem?_toList] at hy
      simp [Go.part, run_isAgg hT hd, hr, hy]
    · rw [hr] at h
      simp only [cond_true] at h
      cases h
      refine ⟨_, by simp [Go.part, run_isAgg hT hd, hr, run_size hT hn]; rfl, VRs.agg ?_⟩
      have := (hv.take (off + n)).drop off
      simpa [Array.toList_extract, List.extract_eq_take_drop, List.drop_take] using this
  · cases h
theorem aload_sound0 {t : TypeId} {v u u' : Value} (h : aload T t u H = some v) (hr : Rep0 P m H w) (hu : VR m u u') :
    ∃ v', (Instr.loadAt t u').run P w = .ok v' w ∧ VR m v v' := by
  unfold aload at h
  split at h
  · rename_i b off
    split at h
    · rename_i o d n ho hd hn
      cases hu with
      | same h => simp [plain] at h
      | ptr hb hmp =>
        rename_i L
        obtain ⟨l, hl, hc⟩ := ((hr.blk b L o hb ho).cel hmp).row
        cases hd' : isRow d
        · rw [hd'] at h
          simp only [cond_false] at h
          obtain ⟨y, hy, hvy⟩ := hl.2 off v h
          have := hc off y hy
          refine ⟨y, ?_, hvy⟩
          simp [Instr.loadAt, Instr.sureAddr, loadVar, run_isAgg hT hd, hd', this]
        · rw [hd'] at h
          simp only [cond_true] at h
          cases hlen : ((o.cells.drop off).take n).length.beq n
          · rw [hlen] at h; cases h
          rw [hlen] at h
          cases h
          have hlen' : ((o.cells.drop off).take n).length = n := by simpa using hlen
          have hv2 := (hl.drop off).take n
          have hl2 : ((l.drop off).take n).length = n := by rw [← hv2.1]; exact hlen'
          have hrun : (loadCells ⟨L.c, L.o + off, none⟩ n).run P w = .ok ((l.drop off).take n).toArray w := by
            have := run_loadCells_list (P := P) w ⟨L.c, L.o + off, none⟩ ((l.drop off).take n) (fun j y hy => by
              rw [Addr.add_mid]
              rw [List.getElem?_take] at hy
              split at hy
              · rw [List.getElem?_drop] at hy
                have := hc _ _ hy
                rwa [← Nat.add_assoc] at this
              · cases hy)
            rwa [hl2] at this
          refine ⟨.agg ((l.drop off).take n).toArray, ?_, VRs.agg (by simpa using hv2)⟩
          simp [Instr.loadAt, Instr.sureAddr, loadVar, run_isAgg hT hd, hd', run_size hT hn, hrun]
    · cases h
  · cases h
theorem aload_sound [Bs] {t : TypeId} {v u u' : Value} (h : aload T t u H = some v) (hr : Rep P m H w) (hu : VR m u u') :
    ∃ v', (Instr.loadAt t u').run P w = .ok v' w ∧ VR m v v' := aload_sound0 hT h hr.toRep0 hu
omit hT in
theorem splice_eq (l : List Value) (off : Nat) (cs : List Value) (h : off + cs.length ≤ l.length) : splice l off cs = l.take off ++ cs ++ l.drop (off + cs.length) := by
  unfold splice
  split
  · rename_i v
    simp at h ⊢
    rw [List.set_eq_take_append_cons_drop, if_pos (by omega)]
  · rfl
omit hT in
theorem splice_len (l : List Value) (off : Nat) (cs : List Value) (h : off + cs.length ≤ l.length) : (splice l off cs).length = l.length := by
  rw [splice_eq l off cs h]; simp; omega
omit hT in
/-- Cells into a block. -/
theorem aput_sound [Bs] {b off : Nat} {cs cs' : List Value} {H' : Heap} (h : aput b off cs H = some H') (hr : Rep P m H w) {L : Loc} (hb : m b = some L) (hmp : L.mp = false) (hcs : VRs m cs cs') :
    ∃ w', (storeCells ⟨L.c, L.o + off, none⟩ cs').run P w = .ok () w' ∧ Rep P m H' w' ∧ Fr m H w m H' w' := by
  unfold aput at h
  split at h
  · rename_i o ho
    cases hc : (!o.ro && cs.all one && (off + cs.length).ble o.cells.length)
    · rw [hc] at h; cases h
    · rw [hc] at h
      simp only [cond_true] at h
      cases h
      simp only [Bool.and_eq_true, Bool.not_eq_true', Nat.ble_eq] at hc
      obtain ⟨⟨hro, hone⟩, hlen⟩ := hc
      obtain ⟨cur, e, fz, h1, h2, h3, h4, hi⟩ := (hr.blk b L o hb ho).cel hmp
      obtain ⟨rfl, rfl, hsz⟩ := h4 hro
      have hone' := hcs.one hone
      have hcl : cs.length = cs'.length := hcs.1
      have hfit : L.o + off + cs'.length ≤ cur.size := by rw [← hcs.1]; omega
      have hst := run_storeCells_at P L.c (L.o + off) o.elem cs' 0 cur w h1 (by simpa using hfit) hone'
      refine ⟨_, hst, ?_⟩
      refine put_sound hr hb ho hro h1 (splice o.cells off cs) (splice_len _ _ _ hlen) _ (by simp; omega) fun k x hx => ?_
      rw [splice_eq _ _ _ hlen] at hx
      simp only [Nat.add_zero]
      by_cases hk1 : k < off
      · rw [List.append_assoc, List.getElem?_append_left (by simp; omega), List.getElem?_take, if_pos hk1] at hx
        obtain ⟨y, hy, hv⟩ := h3 k x hx
        refine ⟨y, ?_, hv⟩
        simp only [List.getElem?_toArray]
        rw [List.append_assoc, List.getElem?_append_left (by simp; omega), List.getElem?_take, if_pos (by omega)]
        simpa using hy
      · by_cases hk2 : k < off + cs.length
        · rw [List.getElem?_append_left (by simp; omega), List.getElem?_append_right (by simp; omega)] at hx
          simp only [List.length_take, show min off o.cells.length = off by omega] at hx
          obtain ⟨y, hy, hv⟩ := hcs.2 _ x hx
          refine ⟨y, ?_, hv⟩
          simp only [List.getElem?_toArray]
          rw [List.getElem?_append_left (by simp; omega), List.getElem?_append_right (by simp; omega)]
          simp only [List.length_take, Array.length_toList, show min (L.o + off) cur.size = L.o + off by omega]
          rwa [show L.o + k - (L.o + off) = k - off by omega]
        · rw [List.getElem?_append_right (by simp; omega), List.getElem?_drop] at hx
          simp only [List.length_append, List.length_take, show min off o.cells.length = off by omega] at hx
          obtain ⟨y, hy, hv⟩ := h3 _ x hx
          refine ⟨y, ?_, hv⟩
          simp only [List.getElem?_toArray]
          rw [List.getElem?_append_right (by simp; omega), List.getElem?_drop]
          simp only [List.length_append, List.length_take, Array.length_toList, show min (L.o + off) cur.size = L.o + off by omega, ← hcs.1]
          rw [show L.o + off + cs.length + (L.o + k - (L.o + off + cs.length)) = L.o + (off + cs.length + (k - (off + cs.length))) by omega]
          simpa using hy
  · cases h
theorem astore_sound [Bs] {t : TypeId} {u u' x x' : Value} {H' : Heap} (h : astore T t u x H = some H') (hr : Rep P m H w) (hu : VR m u u') (hx : VR m x x') :
    ∃ w', (Instr.storeAt t u' x').run P w = .ok () w' ∧ Rep P m H' w' ∧ Fr m H w m H' w' := by
  unfold astore at h
  split at h
  · rename_i b off
    split at h
    · rename_i n hn
      cases hc : x.cells.size.beq n
      · rw [hc] at h; cases h
      · rw [hc] at h
        simp only [cond_true] at h
        cases hu with
        | same h => simp [plain] at h
        | ptr hb hmp =>
          rename_i L
          obtain ⟨w', h1, h2, h3⟩ := aput_sound h hr hb hmp (VRs.cells hx)
          refine ⟨w', ?_, h2, h3⟩
          have hs : x'.cells.size = n := by rw [hx.cells.1]; simpa using hc
          simp [Instr.storeAt, Instr.sureAddr, storeVar, run_size hT hn, hs, h1]
    · cases h
  · cases h
end
end Go.Ev
/- Each operation of the evaluator is the model's, more of them: numbers, slices, fields, what is built. -/
namespace Go.Ev
open Go
set_option linter.unusedVariables false
set_option linter.unusedSimpArgs false
/-- What two numbers give. -/
theorem ibin_run {P : Program} {w : World} {op : BinOp} {k : IntKind} {a b : Int} {v : Value} (h : ibin op k a b = some v) (t : TypeId) (hs : isShift op = false) : (Go.binOp op t (.int k a) (.int k b)).run P w = .ok v w ∧ plain v = true := by
  cases op <;> simp only [ibin, isShift] at h hs <;> first
    | (cases h; exact ⟨by simp [Go.binOp, Op.intArith, Op.intBits, Op.intCmp], rfl⟩)
    | (cases hs; done)
    | (cases hb : (b == 0) <;> rw [hb] at h <;> simp only [cond_true, cond_false] at h
       · cases h
         have : ¬ b = 0 := by simpa using hb
         exact ⟨by simp [Go.binOp, Op.intDiv, this], rfl⟩
       · cases h)
    | cases h
theorem ishift_run {P : Program} {w : World} {op : BinOp} {k k' : IntKind} {a b : Int} {v : Value} (h : ishift op k a b = some v) (t : TypeId) : (Go.binOp op t (.int k a) (.int k' b)).run P w = .ok v w ∧ plain v = true := by
  unfold ishift at h
  cases hb : decide (b < 0)
  · rw [hb] at h
    simp only [cond_false] at h
    have : ¬ b < 0 := by simpa using hb
    split at h
    · cases h; exact ⟨by simp [Go.binOp, Op.shift, this], rfl⟩
    · cases h; exact ⟨by simp [Go.binOp, Op.shift, this], rfl⟩
    · cases h
  · rw [hb] at h; cases h
theorem eqGuard_ok {P : Program} {w : World} (op : BinOp) (t : TypeId) (x y : Operand) (a b : Value) (h : ¬ (a = .nilIface) ∧ (∀ cs, a ≠ .agg cs)) : (eqGuard op t x y a b).run P w = .ok () w := by
  cases op <;> first | rfl | (cases a <;> first | rfl | exact absurd rfl h.1 | exact absurd rfl (h.2 _))
theorem eq_pp {P : Program} {w : World} {t e : TypeId} (h : P.underlying t = some (.pointer e)) (d : Nat) (b : Option Addr) : (Op.equalIn (d + 1) t (.pointer none) (.pointer b)).run P w = .ok b.isNone w := by
  simp [Op.equalIn, run_underlying h]
theorem eq_pn {P : Program} {w : World} {t e : TypeId} (h : P.underlying t = some (.pointer e)) (d : Nat) (a : Addr) : (Op.equalIn (d + 1) t (.pointer (some a)) (.pointer none)).run P w = .ok false w := by
  simp [Op.equalIn, run_underlying h]
theorem eq_ss {P : Program} {w : World} {t e : TypeId} (h : P.underlying t = some (.slice e)) (d : Nat) (b : Option Addr) (l c l' c' : Nat) : (Op.equalIn (d + 1) t (.slice none l c) (.slice b l' c')).run P w = .ok b.isNone w := by
  simp [Op.equalIn, run_underlying h]
theorem eq_sn {P : Program} {w : World} {t e : TypeId} (h : P.underlying t = some (.slice e)) (d : Nat) (a : Addr) (l c l' c' : Nat) : (Op.equalIn (d + 1) t (.slice (some a) l c) (.slice none l' c')).run P w = .ok false w := by
  simp [Op.equalIn, run_underlying h]
theorem eq_bb {P : Program} {w : World} {t : TypeId} (h : P.underlying t = some .bool) (d : Nat) (a b : Bool) : (Op.equalIn (d + 1) t (.bool a) (.bool b)).run P w = .ok (a == b) w := by
  simp [Op.equalIn, run_underlying h]
theorem bin_eq {P : Program} {w : World} {t : TypeId} {u v : Value} {b : Bool} (h : (Op.equal t u v).run P w = .ok b w) : ((do pure (.bool (← Op.equal t u v)) : Sem Value)).run P w = .ok (.bool b) w ∧ ((do pure (.bool (!(← Op.equal t u v))) : Sem Value)).run P w = .ok (.bool !b) w := by
  simp [h]
section
variable {P : Program} {T : Tab} (hT : TabOk P T) {m : Map} {H : Heap} {w : World}
include hT
theorem abin_sound {op : BinOp} {t : TypeId} {u u' v v' r : Value} (h : abin T op t u v = some r) (hu : VR m u u') (hv : VR m v v') (x y : Operand) :
    (do eqGuard op t x y u' v'; Go.binOp op t u' v' : Sem Value).run P w = .ok r w ∧ plain r = true := by
  unfold abin at h
  split at h
  · have := hu.plain_eq rfl
    subst this
    have := hv.plain_eq rfl
    subst this
    rename_i k a k' b
    rw [Sem.run_bind, eqGuard_ok op t x y _ _ ⟨by simp, by simp⟩, Result.andThen_ok]
    cases hs : isShift op
    · rw [hs] at h
      simp only [cond_false] at h
      cases hk : (k == k')
      · rw [hk] at h; cases h
      · have : k = k' := by simpa using hk
        subst this
        rw [hk] at h
        exact ibin_run h t hs
    · rw [hs] at h; exact ishift_run h t
  · have := hu.plain_eq rfl
    subst this
    have := hv.plain_eq rfl
    subst this
    rw [Sem.run_bind, eqGuard_ok op t x y _ _ ⟨by simp, by simp⟩, Result.andThen_ok]
    split at h
    · rename_i hd; cases h
      refine ⟨?_, rfl⟩
      exact (bin_eq (eq_bb (w := w) (hT.under _ _ hd) 9999 _ _)).1
    · rename_i hd; cases h
      refine ⟨?_, rfl⟩
      exact (bin_eq (eq_bb (w := w) (hT.under _ _ hd) 9999 _ _)).2
    · cases h
  · have := hu.plain_eq rfl
    subst this
    rename_i b
    have hb : ∃ b', v' = .pointer b' ∧ b'.isNone = b.isNone := by
      cases hv with
      | same h => exact ⟨_, rfl, rfl⟩
      | ptr h => exact ⟨_, rfl, rfl⟩
    obtain ⟨b', rfl, hb⟩ := hb
    rw [Sem.run_bind, eqGuard_ok op t x y _ _ ⟨by simp, by simp⟩, Result.andThen_ok]
    split at h
    · rename_i e hd; cases h
      refine ⟨?_, rfl⟩
      have hq := eq_pp (w := w) (hT.under _ _ hd) 9999
      rw [← hb]
      exact (bin_eq (hq _)).1
    · rename_i e hd; cases h
      refine ⟨?_, rfl⟩
      have hq := eq_pp (w := w) (hT.under _ _ hd) 9999
      rw [← hb]
      exact (bin_eq (hq _)).2
    · cases h
  · have := hv.plain_eq rfl
    subst this
    have hb : ∃ b', u' = .pointer (some b') := by
      cases hu with
      | same h => exact ⟨_, rfl⟩
      | ptr h => exact ⟨_, rfl⟩
    obtain ⟨b', rfl⟩ := hb
    rw [Sem.run_bind, eqGuard_ok op t x y _ _ ⟨by simp, by simp⟩, Result.andThen_ok]
    split at h
    · rename_i e hd; cases h
      refine ⟨?_, rfl⟩
      have hq := eq_pn (w := w) (hT.under _ _ hd) 9999
      exact (bin_eq (hq _)).1
    · rename_i e hd; cases h
      refine ⟨?_, rfl⟩
      have hq := eq_pn (w := w) (hT.under _ _ hd) 9999
      exact (bin_eq (hq _)).2
    · cases h
  · have := hu.plain_eq rfl
    subst this
    rename_i b _ _
    have hb : ∃ b' l c, v' = .slice b' l c ∧ b'.isNone = b.isNone := by
      cases hv with
      | same h => exact ⟨_, _, _, rfl, rfl⟩
      | slice h hl hc => exact ⟨_, _, _, rfl, rfl⟩
    obtain ⟨b', l, c, rfl, hb⟩ := hb
    rw [Sem.run_bind, eqGuard_ok op t x y _ _ ⟨by simp, by simp⟩, Result.andThen_ok]
    split at h
    · rename_i e hd; cases h
      refine ⟨?_, rfl⟩
      have hq := eq_ss (w := w) (hT.under _ _ hd) 9999
      rw [← hb]
      exact (bin_eq (hq _ _ _ _ _)).1
    · rename_i e hd; cases h
      refine ⟨?_, rfl⟩
      have hq := eq_ss (w := w) (hT.under _ _ hd) 9999
      rw [← hb]
      exact (bin_eq (hq _ _ _ _ _)).2
    · cases h
  · have := hv.plain_eq rfl
    subst this
    have hb : ∃ b' l c, u' = .slice (some b') l c := by
      cases hu with
      | same h => exact ⟨_, _, _, rfl⟩
      | slice h hl hc => exact ⟨_, _, _, rfl⟩
    obtain ⟨b', l, c, rfl⟩ := hb
    rw [Sem.run_bind, eqGuard_ok op t x y _ _ ⟨by simp, by simp⟩, Result.andThen_ok]
    split at h
    · rename_i e hd; cases h
      refine ⟨?_, rfl⟩
      have hq := eq_sn (w := w) (hT.under _ _ hd) 9999
      exact (bin_eq (hq _ _ _ _ _)).1
    · rename_i e hd; cases h
      refine ⟨?_, rfl⟩
      have hq := eq_sn (w := w) (hT.under _ _ hd) 9999
      exact (bin_eq (hq _ _ _ _ _)).2
    · cases h
  · cases h
theorem afield_sound {s : TypeId} {f : Nat} {v u u' : Value} (h : afield T s u f = some v) (hu : VR m u u') :
    ∃ v', (Instr.fieldAt s u' f).run P w = .ok v' w ∧ VR m v v' := by
  unfold afield at h
  split at h
  · rename_i b off fields hd
    split at h
    · rename_i fd hf
      split at h
      · rename_i n hn
        cases h
        cases hu with
        | same h => simp [plain] at h
        | ptr hb hmp =>
          rename_i L
          refine ⟨.pointer (some ⟨L.c, L.o + (off + fd.offset), none⟩), ?_, .ptr hb hmp⟩
          simp [Instr.fieldAt, run_under hT hd, hf, Instr.sureAddr, fieldPlace, run_size hT hn, Addr.add_mid, Nat.add_assoc]
      · cases h
    · cases h
  · cases h
theorem aindexAddr_sound {t : TypeId} {v u u' i i' : Value} (h : aindexAddr T t u i = some v) (hu : VR m u u') (hi : VR m i i') :
    ∃ v', (Instr.indexAt t u' i').run P w = .ok v' w ∧ VR m v v' := by
  unfold aindexAddr at h
  split at h
  · rename_i k n
    have := hi.plain_eq rfl
    subst this
    split at h
    · rename_i e b off len cap hd
      split at h
      · rename_i sz hn
        cases hb : n.blt len
        · rw [hb] at h; cases h
        · rw [hb] at h
          simp only [cond_true] at h
          cases h
          have hlt : n < len := by simpa [Nat.blt_eq] using hb
          cases hu with
          | same h => simp [plain] at h
          | slice hm hmp hc =>
            rename_i q cap' L
            have hq : q = L.o + off := by
              rcases hc with ⟨_, _, h⟩ | ⟨_, _, _, h⟩
              · exact h
              · omega
            subst hq
            refine ⟨.pointer (some ⟨L.c, L.o + (off + n * sz), none⟩), ?_, .ptr hm hmp⟩
            simp [Instr.indexAt, asIntOf, run_under hT hd, hlt, run_size hT hn, Addr.add_mid, Nat.add_assoc]
      · cases h
    · rename_i len e b off hd
      split at h
      · rename_i sz hn
        cases hb : n.blt len
        · rw [hb] at h; cases h
        · rw [hb] at h
          simp only [cond_true] at h
          cases h
          have hlt : n < len := by simpa [Nat.blt_eq] using hb
          cases hu with
          | same h => simp [plain] at h
          | ptr hm hmp =>
            rename_i L
            refine ⟨.pointer (some ⟨L.c, L.o + (off + n * sz), none⟩), ?_, .ptr hm hmp⟩
            simp [Instr.indexAt, asIntOf, run_under hT hd, Instr.sureAddr, hlt, run_size hT hn, Addr.add_mid, Nat.add_assoc]
      · cases h
    · cases h
  · cases h
theorem aindex_sound {t : TypeId} {v u u' i i' : Value} (h : aindex T t u i = some v) (hu : VR m u u') (hi : VR m i i') :
    ∃ v', (Instr.index t u' i').run P w = .ok v' w ∧ VR m v v' := by
  unfold aindex at h
  split at h
  · rename_i k n
    have := hi.plain_eq rfl
    subst this
    split at h
    · rename_i len e cs hd
      split at h
      · rename_i sz hn
        cases hb : n.blt len
        · rw [hb] at h; cases h
        · rw [hb] at h
          simp only [cond_true] at h
          have hlt : n < len := by simpa [Nat.blt_eq] using hb
          cases hu with
          | same h => simp [plain] at h
          | agg hs hv =>
            obtain ⟨v', h1, h2⟩ := apart_sound (w := w) hT h (VRs.of_arr hs hv)
            refine ⟨v', ?_, h2⟩
            simp [Instr.index, asIntOf, run_under hT hd, hlt, run_size hT hn, h1]
      · cases h
    · cases h
  · cases h
omit hT in
theorem sliceBound_ok (k : IntKind) (n y : Nat) (c : BoundsCode) (h : n ≤ y) : (Instr.sliceBound (.int k (n : Int)) y c).run P w = .ok n w := by
  simp [Instr.sliceBound, asIntOf, h]
omit hT in
theorem bounds_ok {isS : Bool} {len cap l h : Nat} {lo hi : Option Value}
    (hlo : (match lo with | none => some 0 | some (.int _ (.ofNat l)) => some l | _ => none) = some l) (hhi : (match hi with | none => some len | some (.int _ (.ofNat h)) => some h | _ => none) = some h)
    (h1 : l ≤ h) (h2 : h ≤ cap) : (Instr.sliceBounds isS len cap lo hi none).run P w = .ok (l, h, cap) w := by
  unfold Instr.sliceBounds
  split at hlo <;> cases hlo <;> split at hhi <;> cases hhi <;> simp [sliceBound_ok _ _ _ _ h1, sliceBound_ok _ _ _ _ h2, Int.ofNat_eq_natCast]
omit hT in
theorem VRo.lo {o o' : Option Value} {l : Nat} {n : Nat} (h : (match o with | none => some n | some (.int _ (.ofNat l)) => some l | _ => none) = some l) (hv : ∀ v, o = some v → ∃ v', o' = some v' ∧ VR m v v') (hn : o = none → o' = none) : o' = o := by
  cases o with
  | none => exact hn rfl
  | some v =>
    obtain ⟨v', rfl, hvv⟩ := hv v rfl
    split at h
    · rename_i h0; cases h0
    · rename_i h0; cases h0; rw [hvv.plain_eq rfl]
    · cases h
theorem aslice_sound {t : TypeId} {u u' v : Value} {lo hi mx lo' hi' mx' : Option Value} (h : aslice T t u lo hi mx = some v) (hu : VR m u u')
    (hlo : ∀ v, lo = some v → ∃ v', lo' = some v' ∧ VR m v v') (hlo0 : lo = none → lo' = none) (hhi : ∀ v, hi = some v → ∃ v', hi' = some v' ∧ VR m v v') (hhi0 : hi = none → hi' = none) (hmx : mx = none → mx' = none) :
    ∃ v', (Instr.sliceAt t u' lo' hi' mx').run P w = .ok v' w ∧ VR m v v' := by
  unfold aslice at h
  split at h
  · cases h
  · rw [hmx rfl]
    split at h
    · rename_i e a len cap hd
      split at h
      · rename_i size l hh hn h1 h2
        have e1 := VRo.lo h1 hlo hlo0
        have e2 := VRo.lo h2 hhi hhi0
        subst e1 e2
        cases hle : l.ble hh
        · rw [hle] at h; cases h
        rw [hle] at h
        simp only [cond_true] at h
        have hle' : l ≤ hh := by simpa using hle
        cases hun : unk.ble cap
        · rw [hun] at h
          simp only [cond_false] at h
          cases hle2 : hh.ble cap
          · rw [hle2] at h; cases h
          rw [hle2] at h
          simp only [cond_true] at h
          cases h
          have hle2' : hh ≤ cap := by simpa using hle2
          cases hu with
          | same hp =>
            cases a with
            | some a => simp [plain] at hp
            | none =>
              refine ⟨.slice none (hh - l) (cap - l), ?_, ?_⟩
              · simp [Instr.sliceAt, run_under hT hd, Instr.slice, bounds_ok h1 h2 hle' hle2', run_size hT hn]
              · have : (bif cap.beq l then none else Option.map (fun x => Addr.add x (l * size)) none) = (none : Option Addr) := by cases cap.beq l <;> rfl
                rw [this]; exact .same rfl
          | slice hm hmp hc =>
            rename_i b off q cap' L
            rcases hc with ⟨hk, rfl, rfl⟩ | ⟨rfl, _⟩
            · refine ⟨.slice (some (if cap' = l then ⟨L.c, L.o + off, none⟩ else ⟨L.c, L.o + (off + l * size), none⟩)) (hh - l) (cap' - l), ?_, ?_⟩
              · simp [Instr.sliceAt, run_under hT hd, Instr.slice, bounds_ok h1 h2 hle' hle2', run_size hT hn, Addr.add_mid, Nat.add_assoc]
                split <;> rfl
              · cases hb : cap'.beq l
                · have : ¬ cap' = l := fun e => by simp [e] at hb
                  rw [if_neg this]
                  simp only [cond_false, Option.map_some, Addr.add_mid]
                  exact .slice hm hmp (.inl ⟨by omega, rfl, rfl⟩)
                · have : cap' = l := by simpa using hb
                  rw [if_pos this]
                  exact .slice hm hmp (.inl ⟨by omega, rfl, rfl⟩)
            · rw [Nat.ble_eq_true_of_le (Nat.le_add_right _ _)] at hun; cases hun
        · rw [hun] at h
          simp only [cond_true] at h
          have hcap : unk ≤ cap := Nat.le_of_ble_eq_true hun
          split at h
          · rename_i b off
            cases hc2 : (hh.ble len && cap.beq (unk + size))
            · rw [hc2] at h; cases h
            rw [hc2] at h
            simp only [cond_true] at h
            cases h
            simp only [Bool.and_eq_true, Nat.ble_eq, Nat.beq_eq] at hc2
            obtain ⟨hhl, hcu⟩ := hc2
            cases hu with
            | same hp => simp [plain] at hp
            | slice hm hmp hc =>
              rename_i q cap' L
              rcases hc with ⟨hk, _, _⟩ | ⟨hce, hlc, hfit, hq⟩
              · omega
              · have hes : L.esz = size := by omega
                refine ⟨.slice (some (if cap' = l then ⟨L.c, q, none⟩ else ⟨L.c, q + l * size, none⟩)) (hh - l) (cap' - l), ?_, ?_⟩
                · simp [Instr.sliceAt, run_under hT hd, Instr.slice, bounds_ok h1 h2 hle' (Nat.le_trans hhl hlc), run_size hT hn, Addr.add_mid]
                  split <;> rfl
                · have hmul : l ≤ cap' → l * L.esz + (cap' - l) * L.esz = cap' * L.esz := fun h => by rw [← Nat.add_mul]; congr 1; omega
                  have hm2 := hmul (by omega)
                  by_cases hcl : cap' = l
                  · rw [if_pos hcl]
                    refine .slice hm hmp (.inr ⟨by rw [hes], by omega, ?_, .inl (by omega)⟩)
                    subst hcl
                    simp; omega
                  · rw [if_neg hcl]
                    refine .slice hm hmp (.inr ⟨by rw [hes], by omega, ?_, ?_⟩)
                    · rw [← hes]; omega
                    · rcases hq with h0 | h0
                      · exact .inl (by omega)
                      · exact .inr (by omega)
          · cases h
      · cases h
    · rename_i n e b off hd
      split at h
      · rename_i size l hh hn h1 h2
        have e1 := VRo.lo h1 hlo hlo0
        have e2 := VRo.lo h2 hhi hhi0
        subst e1 e2
        cases hc : (l.ble hh && hh.ble n && n.blt unk)
        · rw [hc] at h; cases h
        rw [hc] at h
        simp only [cond_true] at h
        cases h
        simp only [Bool.and_eq_true, Nat.ble_eq, Nat.blt_eq] at hc
        obtain ⟨⟨hle, hle2⟩, hnu⟩ := hc
        cases hu with
        | same hp => simp [plain] at hp
        | ptr hm hmp =>
          rename_i L
          refine ⟨.slice (some (if n = l then ⟨L.c, L.o + off, none⟩ else ⟨L.c, L.o + (off + l * size), none⟩)) (hh - l) (n - l), ?_, ?_⟩
          · simp [Instr.sliceAt, run_under hT hd, Instr.sureAddr, bounds_ok h1 h2 hle hle2, run_size hT hn, Addr.add_mid, Nat.add_assoc]
          · cases hb : n.beq l
            · have : ¬ n = l := fun e => by simp [e] at hb
              rw [if_neg this]
              simp only [cond_false, Addr.add_mid]
              exact .slice hm hmp (.inl ⟨by omega, rfl, rfl⟩)
            · have : n = l := by simpa using hb
              rw [if_pos this]
              exact .slice hm hmp (.inl ⟨by omega, rfl, rfl⟩)
      · cases h
    · cases h
end
end Go.Ev
/- Each operation of the evaluator is the model's, the last of them: what is made, appended, copied, turned. -/
namespace Go.Ev
open Go
set_option linter.unusedVariables false
set_option linter.unusedSimpArgs false
inductive PR (m : Map) : List (Nat × Value) → List (Nat × Value) → Prop where
  | nil : PR m [] []
  | cons {i : Nat} {v v' : Value} {l l' : List (Nat × Value)} (h : VR m v v') (k : PR m l l') : PR m ((i, v) :: l) ((i, v') :: l')
theorem foldset {m : Map} (off : Nat) : ∀ (l l' : List Value) (k : Nat) (cells cells' : Array Value), VRs m l l' → VRs m cells.toList cells'.toList →
    VRs m ((l.zipIdx k).foldl (fun cs (p : Value × Nat) => cs.setIfInBounds (off + p.2) p.1) cells).toList ((l'.zipIdx k).foldl (fun cs (p : Value × Nat) => cs.setIfInBounds (off + p.2) p.1) cells').toList := by
  intro l
  induction l with
  | nil =>
    intro l' k cells cells' h hc
    have : l' = [] := List.eq_nil_of_length_eq_zero (by have := h.1; simp at this; exact this.symm)
    subst this
    simpa using hc
  | cons x l ih =>
    intro l' k cells cells' h hc
    cases l' with
    | nil => have := h.1; simp at this
    | cons y l' =>
      obtain ⟨y', hy, hv⟩ := h.2 0 x (by simp)
      simp at hy
      subst hy
      simp only [List.zipIdx_cons, List.foldl_cons]
      refine ih l' (k + 1) _ _ ⟨by have := h.1; simpa using this, fun i z hz => by simpa using h.2 (i + 1) z (by simpa using hz)⟩ ?_
      rw [Array.toList_setIfInBounds, Array.toList_setIfInBounds]
      exact hc.set _ hv
theorem fill_sound {m : Map} {place : Nat → Option (Nat × Nat)} : ∀ (parts parts' : List (Nat × Value)) (cells cells' r : Array Value), Instr.fill place cells parts = some r → VRs m cells.toList cells'.toList → PR m parts parts' →
    ∃ r', Instr.fill place cells' parts' = some r' ∧ VRs m r.toList r'.toList := by
  intro parts
  induction parts with
  | nil =>
    intro parts' cells cells' r h hc hp
    cases hp
    simp only [Instr.fill] at h ⊢
    cases h
    exact ⟨_, rfl, hc⟩
  | cons p parts ih =>
    intro parts' cells cells' r h hc hp
    cases hp with
    | cons hv hk =>
      rename_i i v v' l'
      simp only [Instr.fill] at h ⊢
      split at h
      · cases h
      · rename_i off size hpl
        simp only [hv.cells.1, ← show cells.size = cells'.size by simpa using hc.1]
        split at h
        · cases h
        · rename_i hcond
          rw [if_neg hcond]
          refine ih l' _ _ r h ?_ hk
          have := foldset (m := m) off v.cells.toList v'.cells.toList 0 cells cells' (VRs.cells hv) hc
          rw [← Array.foldl_toList, ← Array.foldl_toList, Array.toList_zipIdx, Array.toList_zipIdx]
          exact this
/-- A run that makes one block. -/
def Mk (P : Program) (m : Map) (n : Nat) (w : World) (r : Result Value) (v : Value) (ob : Ob) : Prop :=
  ∃ v' cs i, r = .ok v' (w.alloc (.cells cs ob.elem)) ∧ P.info? ob.elem = some i ∧ ob.ro = false ∧ ob.cells.length ≤ cs.size ∧ (∀ (k : Nat) (x : Value), ob.cells[k]? = some x → ∃ y, cs[k]? = some y ∧ VR m x y) ∧ VR (m.add n ⟨w.heap.size, 0, cs.size, i.size, false⟩) v v'
theorem Mk.sound [Bs] {P : Program} {m : Map} {H : Heap} {w : World} {r : Result Value} {v : Value} {ob : Ob} (h : Mk P m H.n w r v ob) (hr : Rep P m H w) :
    ∃ v' w' m', r = .ok v' w' ∧ VR m' v v' ∧ Rep P m' (H.push ob) w' ∧ Fr m H w m' (H.push ob) w' := by
  obtain ⟨v', cs, i, h1, h2, h3, h4, h5, h6⟩ := h
  have hp := push_sound hr ob cs h3 i h2 h4 h5
  exact ⟨v', _, _, h1, h6, hp.1, hp.2⟩
theorem nat_mod_lt (k s : Nat) (h : 0 < s) : k % s < s := Nat.mod_lt _ h
theorem zerosOf_get {z : List Value} {n : Nat} (hz : 0 < z.length) : (zerosOf z n).length = n * z.length ∧ ∀ k, k < n * z.length → (zerosOf z n)[k]? = z[k % z.length]? := by
  have gen : ∀ n, ((List.replicate n z).flatten).length = n * z.length ∧ ∀ k, k < n * z.length → ((List.replicate n z).flatten)[k]? = z[k % z.length]? := by
    intro n
    induction n with
    | zero => simp
    | succ n ih =>
      refine ⟨by simp [List.replicate_succ, ih.1, Nat.add_mul, Nat.add_comm], fun k hk => ?_⟩
      rw [List.replicate_succ, List.flatten_cons]
      by_cases h : k < z.length
      · rw [List.getElem?_append_left h, Nat.mod_eq_of_lt h]
      · rw [List.getElem?_append_right (by omega), ih.2 _ (by rw [Nat.add_mul] at hk; omega), ← Nat.mod_eq_sub_mod (by omega)]
  unfold zerosOf
  split
  · rename_i v
    refine ⟨by simp, fun k hk => ?_⟩
    simp at hk
    simp [List.getElem?_replicate, hk, Nat.mod_one]
  · exact gen n
theorem madeCells_eq {z : Array Value} (hz : 0 < z.size) (n : Nat) : (madeCells z (n * z.size)).toList = zerosOf z.toList n := by
  have h := zerosOf_get (z := z.toList) (n := n) (by simpa using hz)
  simp only [Array.length_toList] at h
  apply List.ext_getElem?
  intro k
  by_cases hk : k < n * z.size
  · rw [h.2 k hk]
    have hm := nat_mod_lt k z.size hz
    simp [madeCells, hk, hm]
  · rw [List.getElem?_eq_none (by simp [size_madeCells]; omega), List.getElem?_eq_none (by rw [h.1]; omega)]
section
variable {P : Program} {T : Tab} (hT : TabOk P T) {m : Map} {H : Heap} {w : World}
theorem closed_cells {z : Value} (hz : closed z = true) (h1 : z.cells.all (·.oneCell') = true) : VRs m z.cells.toList z.cells.toList := VRs.cells (VR.of_closed hz)
include hT
theorem run_zero {t : TypeId} {z : Value} (h : T.zero t = some z) : (Go.zeroValue t).run P w = .ok z w := by
  obtain ⟨i, h1, h2, _⟩ := hT.zero t z h
  simp [Go.zeroValue, typeInfo, h1, h2]
/-- A variable. -/
theorem alloc_mk (m : Map) (n : Nat) (w : World) {e : TypeId} {z : Value} (hz : T.zero e = some z) (hc : closed z = true) :
    Mk P m n w ((Instr.alloc e true (.tuple #[])).run P w) (.pointer (some ⟨n, 0, none⟩)) ⟨z.cells.toList, e, false⟩ := by
  obtain ⟨i, h1, h2, h3, h4⟩ := hT.zero e z hz
  refine ⟨.pointer (some ⟨w.heap.size, 0, none⟩), z.cells, i, by simp [Instr.alloc, run_zero hT hz, newVar, newRow], h1, rfl, by simp, fun k x hx => ?_, ?_⟩
  · obtain ⟨y, hy, hv⟩ := (closed_cells (m := m) hc h4).2 k x hx
    exact ⟨y, by simpa using hy, hv⟩
  · have := VR.ptr (m := m.add n ⟨w.heap.size, 0, z.cells.size, i.size, false⟩) (off := 0) (Map.add_self m n ⟨w.heap.size, 0, z.cells.size, i.size, false⟩) rfl
    simpa using this
omit hT in
theorem box_mk (n : Nat) (w : World) {e : TypeId} {v v' : Value} {i : TypeInfo} (hi : P.info? e = some i) (hv : VR m v v') :
    Mk P m n w ((Instr.box e v').run P w) (.pointer (some ⟨n, 0, none⟩)) ⟨v.cells.toList, e, false⟩ := by
  refine ⟨.pointer (some ⟨w.heap.size, 0, none⟩), v'.cells, i, by simp [Instr.box, newVar, newRow], hi, rfl, by simp [hv.cells.1], fun k x hx => ?_, ?_⟩
  · obtain ⟨y, hy, hv⟩ := hv.cells.2 k x (by simpa using hx)
    exact ⟨y, hy, hv⟩
  · have := VR.ptr (m := m.add n ⟨w.heap.size, 0, v'.cells.size, i.size, false⟩) (off := 0) (Map.add_self m n ⟨w.heap.size, 0, v'.cells.size, i.size, false⟩) rfl
    simpa using this
omit hT in
theorem fill_size {place : Nat → Option (Nat × Nat)} : ∀ (parts : List (Nat × Value)) (cells r : Array Value), Instr.fill place cells parts = some r → r.size = cells.size := by
  intro parts
  induction parts with
  | nil => intro cells r h; simp only [Instr.fill] at h; cases h; rfl
  | cons p parts ih =>
    intro cells r h
    obtain ⟨i, v⟩ := p
    simp only [Instr.fill] at h
    split at h
    · cases h
    · split at h
      · cases h
      · rw [ih _ _ h]
        rename_i off size _ _
        have : ∀ (l : List (Value × Nat)) (cs : Array Value), (l.foldl (fun cs (p : Value × Nat) => cs.setIfInBounds (off + p.2) p.1) cs).size = cs.size := by
          intro l
          induction l with
          | nil => intro cs; rfl
          | cons x l ih => intro cs; simp only [List.foldl_cons, ih, Array.size_setIfInBounds]
        have h2 := this v.cells.zipIdx.toList cells
        rw [Array.foldl_toList] at h2
        exact h2
omit hT in
theorem places_run (g : Field → Sem (Nat × Nat)) (hg : ∀ f n, T.size f.type = some n → (g f).run P w = .ok (f.offset, n) w) : ∀ (l : List Field) (ps : List (Nat × Nat)), places T l = some ps → (l.mapM g).run P w = .ok ps w := by
  intro l
  induction l with
  | nil => intro ps h; simp [places] at h; subst h; simp
  | cons f l ih =>
    intro ps h
    simp only [places] at h
    split at h
    · rename_i n l' hn hl
      cases h
      simp only [List.mapM_cons, Sem.run_bind, hg f n hn, ih _ hl, Result.andThen_ok, Sem.run_pure]
    · cases h
theorem abuild_sound {t : TypeId} {parts parts' : List (Nat × Value)} {v : Value} (h : abuild T t parts = some v) (hp : PR m parts parts') :
    ∃ v', (Instr.build t parts'.toArray).run P w = .ok v' w ∧ VR m v v' := by
  unfold abuild at h
  split at h
  · rename_i fields z hd hz
    cases hc : closed z
    · rw [hc] at h; cases h
    rw [hc] at h
    simp only [cond_true] at h
    obtain ⟨i, h1, h2, h3, h4⟩ := hT.zero t z hz
    split at h
    · rename_i ps hps
      split at h
      · rename_i cs hcs
        cases h
        obtain ⟨r', hr', hv⟩ := fill_sound _ parts' _ z.cells _ hcs (closed_cells hc h4) hp
        refine ⟨.agg r', ?_, VRs.agg hv⟩
        have hm' : ∀ g : Field → Sem (Nat × Nat), (∀ f n, T.size f.type = some n → (g f).run P w = .ok (f.offset, n) w) → (fields.mapM g).run P w = .ok ps.toArray w := fun g hg => by
          rw [Array.mapM_eq_mapM_toList]
          simp only [map_eq_pure_bind, Sem.run_bind, places_run g hg _ _ hps, Result.andThen_ok, Sem.run_pure]
        unfold Instr.build
        simp only [Sem.run_bind, run_zero hT hz, Result.andThen_ok, run_under hT hd]
        rw [hm' _ (fun f n hn => by simp [run_size hT hn])]
        simp [hr']
      · cases h
    · cases h
  · rename_i n e z hd hz
    cases hc : closed z
    · rw [hc] at h; cases h
    rw [hc] at h
    simp only [cond_true] at h
    obtain ⟨i, h1, h2, h3, h4⟩ := hT.zero t z hz
    split at h
    · rename_i size hn
      split at h
      · rename_i cs hcs
        cases h
        obtain ⟨r', hr', hv⟩ := fill_sound _ parts' _ z.cells _ hcs (closed_cells hc h4) hp
        refine ⟨.agg r', ?_, VRs.agg hv⟩
        simp [Instr.build, run_zero hT hz, run_under hT hd, run_size hT hn, hr']
      · cases h
    · cases h
  · cases h
omit hT in
theorem plain_all_zeros {z : List Value} (h : z.all plain = true) (n : Nat) : (zerosOf z n).all plain = true := by
  unfold zerosOf
  split
  · simp at h
    simp [h]
  · simp only [List.all_eq_true, List.mem_flatten, List.mem_replicate] at *
    rintro x ⟨l, ⟨_, rfl⟩, hx⟩
    exact h x hx
omit hT in
theorem closed_plain {z : Value} (hz : closed z = true) (h1 : z.cells.all (·.oneCell') = true) : z.cells.toList.all plain = true ∨ ∃ f, z = .func f #[] #[] := by
  cases z <;> simp only [closed] at hz
  case agg cs => exact .inl hz
  case tuple cs => simp [Value.cells, Value.oneCell'] at h1
  case func f a c =>
    simp only [Bool.and_eq_true, List.isEmpty_iff, Array.toList_eq_nil_iff] at hz
    obtain ⟨rfl, rfl⟩ := hz
    exact .inr ⟨f, rfl⟩
  all_goals exact .inl (by simpa [Value.cells] using hz)
omit hT in
theorem zeros_VRs {z : Value} (hz : closed z = true) (h1 : z.cells.all (·.oneCell') = true) (n : Nat) : VRs m (zerosOf z.cells.toList n) (zerosOf z.cells.toList n) := by
  rcases closed_plain hz h1 with h | ⟨f, rfl⟩
  · exact VRs.of_closed (plain_all_zeros h n)
  · simp only [Value.cells, zerosOf]
    refine ⟨rfl, fun i x hx => ⟨x, hx, ?_⟩⟩
    have := List.mem_of_getElem? hx
    simp at this
    rw [this.2]
    exact VR.of_closed (by simp [closed])
theorem abuildSlice_mk (w : World) {t : TypeId} {len : Nat} {parts parts' : List (Nat × Value)} {v : Value} {H' : Heap} (h : abuildSlice T t len parts H = some (v, H')) (hp : PR m parts parts') :
    ∃ ob, H' = H.push ob ∧ Mk P m H.n w ((Instr.buildSlice t len parts'.toArray).run P w) v ob := by
  unfold abuildSlice at h
  split at h
  · rename_i e hd
    split at h
    · rename_i s z hn hz
      cases hc : ((len * (s + 1)).ble 16777216 && closed z && z.cells.size.beq (s + 1))
      · rw [hc] at h; cases h
      rw [hc] at h
      simp only [cond_true] at h
      simp only [Bool.and_eq_true, Nat.ble_eq, Nat.beq_eq] at hc
      obtain ⟨⟨hle, hcl⟩, hzs⟩ := hc
      split at h
      · rename_i cs hcs
        cases h
        obtain ⟨i, h1, h2, h3, h4⟩ := hT.zero e z hz
        obtain ⟨i', h5, h6⟩ := hT.size e _ hn
        rw [h1] at h5
        cases h5
        obtain ⟨r', hr', hv⟩ := fill_sound _ parts' _ (zerosOf z.cells.toList len).toArray _ hcs (by simpa using zeros_VRs hcl h4 len) hp
        have hmk : (Array.range (len * i.size)).map (z.cells[· % z.cells.size]!) = (zerosOf z.cells.toList len).toArray := by
          have := madeCells_eq (z := z.cells) (by omega) len
          rw [h3] at this
          apply Array.ext'
          rw [← this]
          simp [madeCells, h3]
        have hb1 : (⟨cs.toList, e, false⟩ : Ob).cells.length ≤ r'.size := by have := hv.1; simp at this ⊢; omega
        have hb2 : ∀ (k : Nat) (x : Value), (⟨cs.toList, e, false⟩ : Ob).cells[k]? = some x → ∃ y, r'[k]? = some y ∧ VR m x y := fun k x hx => by
          obtain ⟨y, hy, hvy⟩ := hv.2 k x hx
          exact ⟨y, by simpa using hy, hvy⟩
        by_cases hpos : len * i.size = 0
        · have hl0 : len = 0 := by
            rcases Nat.mul_eq_zero.1 hpos with h | h
            · exact h
            · omega
          subst hl0
          refine ⟨_, rfl, _, r', i, ?_, h1, rfl, hb1, hb2, .slice (Map.add_self _ _ _) rfl (.inl ⟨by decide, rfl, rfl⟩)⟩
          have hz0 : zerosOf z.cells.toList 0 = [] := by unfold zerosOf; split <;> simp
          rw [hz0] at hr'
          have hr2 : Instr.fill (fun i => some (i * (s + 1), s + 1)) #[] parts' = some r' := hr'
          have hr3 : ∀ f : Nat → Value, Instr.fill (fun i => some (i * (s + 1), s + 1)) ((Array.range 0).map f) parts' = some r' := fun f => by rw [show (Array.range 0).map f = #[] by simp [Array.range_zero']]; exact hr2
          simp [Instr.buildSlice, run_under hT hd, run_size hT hn, hr3, newRow]
        · refine ⟨_, rfl, _, r', i, run_buildSlice w t e len parts'.toArray r' i z (hT.under _ _ hd) h1 h2 (by rw [show i.size = s + 1 from h6]; omega) hpos (by rw [hmk, h6]; exact hr'), h1, rfl, hb1, hb2, .slice (Map.add_self _ _ _) rfl (.inl ⟨?_, rfl, rfl⟩)⟩
          have h9 : len ≤ len * (s + 1) := Nat.le_mul_of_pos_right _ (by omega)
          exact Nat.lt_of_le_of_lt (Nat.le_trans h9 hle) (by decide)
      · cases h
    · cases h
  · cases h
theorem amakeSlice_mk (w : World) {t : TypeId} {l c l' c' v : Value} {H' : Heap} (h : amakeSlice T t l c H = some (v, H')) (hl : VR m l l') (hc : VR m c c') :
    ∃ ob, H' = H.push ob ∧ Mk P m H.n w ((Instr.makeSlice t l' c').run P w) v ob := by
  unfold amakeSlice at h
  split at h
  · rename_i e ln cn hd hln hcn
    split at h
    · rename_i by_ s z hb hn hz
      cases hk : (ln.ble cn && (by_ * cn).ble 140737488355328 && cn.ble 4611686018427387904 && closed z)
      · rw [hk] at h; cases h
      rw [hk] at h
      simp only [cond_true] at h
      cases h
      simp only [Bool.and_eq_true, Nat.ble_eq] at hk
      obtain ⟨⟨⟨hlc, hbc⟩, hc62⟩, hcl⟩ := hk
      have hl2 : ∃ kl, l = .int kl (ln : Int) := by
        unfold nats at hln
        split at hln
        · cases hln; exact ⟨_, rfl⟩
        · cases hln
      have hc2 : ∃ kc, c = .int kc (cn : Int) := by
        unfold nats at hcn
        split at hcn
        · cases hcn; exact ⟨_, rfl⟩
        · cases hcn
      obtain ⟨kl, rfl⟩ := hl2
      obtain ⟨kc, rfl⟩ := hc2
      rw [hl.plain_eq rfl, hc.plain_eq rfl]
      obtain ⟨i, h1, h2, h3, h4⟩ := hT.zero e z hz
      obtain ⟨i', h5, h6⟩ := hT.size e _ hn
      rw [h1] at h5
      cases h5
      obtain ⟨i', h7, h8⟩ := hT.bytes e _ hb
      rw [h1] at h7
      cases h7
      have hmk := madeCells_eq (z := z.cells) (by omega) cn
      rw [h3] at hmk
      have hv := zeros_VRs (m := m) hcl h4 cn
      have hb1 : (⟨zerosOf z.cells.toList cn, e, false⟩ : Ob).cells.length ≤ (madeCells z.cells (cn * i.size)).size := by show (zerosOf z.cells.toList cn).length ≤ _; rw [← hmk, Array.length_toList]; exact Nat.le_refl _
      have hb2 : ∀ (k : Nat) (x : Value), (⟨zerosOf z.cells.toList cn, e, false⟩ : Ob).cells[k]? = some x → ∃ y, (madeCells z.cells (cn * i.size))[k]? = some y ∧ VR m x y := fun k x hx => by
        obtain ⟨y, hy, hvy⟩ := hv.2 k x hx
        rw [← hmk] at hy
        exact ⟨y, by simpa using hy, hvy⟩
      have h10 : ((by_ * cn : Nat) : Int) ≤ ((140737488355328 : Nat) : Int) := Int.ofNat_le.2 hbc
      rw [Int.natCast_mul] at h10
      have hrun := run_make (P := P) w t e i z (hT.under _ _ hd) h1 h2 kl kc ln cn (by omega) (by omega) (by rw [h8]; omega) (by omega)
      simp only [Int.toNat_natCast] at hrun
      exact ⟨_, rfl, _, _, i, hrun, h1, rfl, hb1, hb2, .slice (Map.add_self _ _ _) rfl (.inl ⟨by unfold unk; omega, rfl, rfl⟩)⟩
    · cases h
  · cases h
end
end Go.Ev
