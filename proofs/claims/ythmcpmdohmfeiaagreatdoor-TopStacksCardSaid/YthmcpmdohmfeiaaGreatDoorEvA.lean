/- An evaluator over memory whose blocks bear names of their own: its trees, values, operations. -/
import Derived.KernelRfl
import Derived.Orders
import Derived.Scope
import Derived.LoopN
namespace Go.Ev
open Go
set_option linter.unusedVariables false
/-- A tree by the digits of a number. -/
inductive Tr (α : Type) where
  | lf
  | nd (l : Tr α) (v : Option α) (r : Tr α)
namespace Tr
variable {α : Type}
def get : Tr α → Nat → Option α
  | .lf, _ => none
  | .nd _ v _, 0 => v
  | .nd l _ r, k + 1 => bif (k % 2).beq 0 then l.get (k / 2) else r.get (k / 2)
def left : Tr α → Tr α | .lf => .lf | .nd l _ _ => l
def right : Tr α → Tr α | .lf => .lf | .nd _ _ r => r
def top : Tr α → Option α | .lf => none | .nd _ v _ => v
def putF : Nat → Tr α → Nat → Option α → Tr α
  | 0, t, _, _ => t
  | _ + 1, t, 0, v => .nd t.left v t.right
  | f + 1, t, k + 1, v => bif (k % 2).beq 0 then .nd (putF f t.left (k / 2) v) t.top t.right else .nd t.left t.top (putF f t.right (k / 2) v)
def put (t : Tr α) (n : Nat) (v : Option α) : Tr α := putF (n + 1) t n v
theorem get_nd (t : Tr α) (k : Nat) : t.get (k + 1) = (bif (k % 2).beq 0 then t.left.get (k / 2) else t.right.get (k / 2)) := by
  cases t <;> simp [get, left, right]
theorem get_zero (t : Tr α) : t.get 0 = t.top := by cases t <;> rfl
theorem get_putF : ∀ (f : Nat) (t : Tr α) (n : Nat) (v : Option α) (j : Nat), n < f → (putF f t n v).get j = if j = n then v else t.get j := by
  intro f
  induction f with
  | zero => intro t n v j h; omega
  | succ f ih =>
    intro t n v j h
    cases n with
    | zero =>
      cases j with
      | zero => simp [putF, get]
      | succ j => simp [putF, get_nd, left, right]
    | succ k =>
      have hk : k / 2 < f := by omega
      simp only [putF]
      cases hb : (k % 2).beq 0
      · simp only [cond_false]
        cases j with
        | zero => rw [get_zero, get_zero]; simp [top]
        | succ j =>
          rw [get_nd, get_nd]
          simp only [left, right]
          cases hj : (j % 2).beq 0
          · simp only [cond_false]
            rw [ih _ _ _ _ hk]
            have h1 : j % 2 = 1 := by have : ¬ j % 2 = 0 := fun e => by simp [e] at hj
                                      omega
            have h2 : k % 2 = 1 := by have : ¬ k % 2 = 0 := fun e => by simp [e] at hb
                                      omega
            by_cases e : j = k
            · subst e; simp
            · rw [if_neg (by omega), if_neg (by omega)]
          · simp only [cond_true]
            have h1 : j % 2 = 0 := by simpa using hj
            have h2 : k % 2 = 1 := by have : ¬ k % 2 = 0 := fun e => by simp [e] at hb
                                      omega
            rw [if_neg (by omega)]
      · simp only [cond_true]
        have h2 : k % 2 = 0 := by simpa using hb
        cases j with
        | zero => rw [get_zero, get_zero]; simp [top]
        | succ j =>
          rw [get_nd, get_nd]
          simp only [left, right]
          cases hj : (j % 2).beq 0
          · simp only [cond_false]
            have h1 : j % 2 = 1 := by have : ¬ j % 2 = 0 := fun e => by simp [e] at hj
                                      omega
            rw [if_neg (by omega)]
          · simp only [cond_true]
            have h1 : j % 2 = 0 := by simpa using hj
            rw [ih _ _ _ _ hk]
            by_cases e : j = k
            · subst e; simp
            · rw [if_neg (by omega), if_neg (by omega)]
theorem get_put (t : Tr α) (n : Nat) (v : Option α) (j : Nat) : (t.put n v).get j = if j = n then v else t.get j := get_putF _ _ _ _ _ (by omega)
end Tr
/-- A block as it is named here: its cells, their row's type, whether it may only be read. -/
structure Ob where
  cells : List Value
  elem : TypeId
  ro : Bool
structure Heap where
  t : Tr Ob
  n : Nat
namespace Heap
def get (H : Heap) (b : Nat) : Option Ob := H.t.get b
def put (H : Heap) (b : Nat) (o : Ob) : Heap := { H with t := H.t.put b (some o) }
def kill (H : Heap) (b : Nat) : Heap := { H with t := H.t.put b none }
def push (H : Heap) (o : Ob) : Heap := { t := H.t.put H.n (some o), n := H.n + 1 }
theorem get_put (H : Heap) (b : Nat) (o : Ob) (j : Nat) : (H.put b o).get j = if j = b then some o else H.get j := Tr.get_put _ _ _ _
theorem get_kill (H : Heap) (b : Nat) (j : Nat) : (H.kill b).get j = if j = b then none else H.get j := Tr.get_put _ _ _ _
theorem get_push (H : Heap) (o : Ob) (j : Nat) : (H.push o).get j = if j = H.n then some o else H.get j := Tr.get_put _ _ _ _
theorem n_put (H : Heap) (b : Nat) (o : Ob) : (H.put b o).n = H.n := rfl
theorem n_kill (H : Heap) (b : Nat) : (H.kill b).n = H.n := rfl
theorem n_push (H : Heap) (o : Ob) : (H.push o).n = H.n + 1 := rfl
/-- May a block be written? -/
def wr (H : Heap) (b : Nat) : Prop := ∃ o, H.get b = some o ∧ o.ro = false
end Heap
/-- The capacity that nobody knows; the number of an element's cells is told above it. -/
def unk : Nat := 36893488147419103232
def plain : Value → Bool
  | .bool _ | .int _ _ | .float _ _ | .complex _ _ _ | .string _ | .pointer none | .slice none _ _ | .map none | .chan none | .nilFunc | .nilIface => true
  | _ => false
def closed : Value → Bool
  | .agg cs => cs.toList.all plain
  | .tuple cs => cs.toList.all plain
  | .func _ f c => f.toList.isEmpty && c.toList.isEmpty
  | v => plain v
/-- Where a named block lies: the block, from which cell, how many cells the block has, how many cells one of its elements has. -/
structure Loc where
  c : Nat
  o : Nat
  sz : Nat
  esz : Nat
  /-- Is it a map? -/
  mp : Bool
abbrev Map := Nat → Option Loc
inductive VR (m : Map) : Value → Value → Prop where
  | same {v : Value} (h : plain v = true) : VR m v v
  | ptr {b off : Nat} {L : Loc} (h : m b = some L) (hl : L.mp = false) : VR m (.pointer (some ⟨b, off, none⟩)) (.pointer (some ⟨L.c, L.o + off, none⟩))
  | map {b : Nat} {L : Loc} (h : m b = some L) (hl : L.mp = true) : VR m (.map (some b)) (.map (some L.c))
  | iter {b : Nat} {L : Loc} (h : m b = some L) (hl : L.mp = true) : VR m (.chan (some b)) (.pointer (some ⟨L.c, 0, none⟩))
  | slice {b off len cap q cap' : Nat} {L : Loc} (h : m b = some L) (hl : L.mp = false)
      (hc : (cap < unk ∧ cap' = cap ∧ q = L.o + off) ∨ (cap = unk + L.esz ∧ len ≤ cap' ∧ q + cap' * L.esz ≤ L.sz ∧ (len = 0 ∨ q = L.o + off))) :
      VR m (.slice (some ⟨b, off, none⟩) len cap) (.slice (some ⟨L.c, q, none⟩) len cap')
  | agg {xs ys : Array Value} (hs : xs.size = ys.size) (h : ∀ i (h1 : i < xs.size) (h2 : i < ys.size), VR m xs[i] ys[i]) : VR m (.agg xs) (.agg ys)
  | tuple {xs ys : Array Value} (hs : xs.size = ys.size) (h : ∀ i (h1 : i < xs.size) (h2 : i < ys.size), VR m xs[i] ys[i]) : VR m (.tuple xs) (.tuple ys)
  | func {fn : Fn} {fs gs cs ds : Array Value} (hs : fs.size = gs.size) (h : ∀ i (h1 : i < fs.size) (h2 : i < gs.size), VR m fs[i] gs[i])
      (ht : cs.size = ds.size) (k : ∀ i (h1 : i < cs.size) (h2 : i < ds.size), VR m cs[i] ds[i]) : VR m (.func fn fs cs) (.func fn gs ds)
  | iface {t : TypeId} {v v' : Value} (h : VR m v v') : VR m (.iface t v) (.iface t v')
def Map.le (m m' : Map) : Prop := ∀ b L, m b = some L → m' b = some L
theorem VR.mono {m m' : Map} (hm : m.le m') {v v' : Value} (h : VR m v v') : VR m' v v' := by
  induction h with
  | same h => exact .same h
  | ptr h hl => exact .ptr (hm _ _ h) hl
  | map h hl => exact .map (hm _ _ h) hl
  | iter h hl => exact .iter (hm _ _ h) hl
  | slice h hl hc => exact .slice (hm _ _ h) hl hc
  | agg hs _ ih => exact .agg hs ih
  | tuple hs _ ih => exact .tuple hs ih
  | func hs _ ht _ ih ih' => exact .func hs ih ht ih'
  | iface _ ih => exact .iface ih
theorem VR.plain_eq {m : Map} {v v' : Value} (h : VR m v v') (hp : plain v = true) : v' = v := by
  cases h <;> simp_all [plain]
theorem VR.closed_eq {m : Map} {v v' : Value} (h : VR m v v') (hp : closed v = true) : v' = v := by
  cases h with
  | same h => rfl
  | ptr h => simp [closed, plain] at hp
  | map h => simp [closed, plain] at hp
  | iter h => simp [closed, plain] at hp
  | slice h => simp [closed, plain] at hp
  | agg hs h =>
    simp only [closed, List.all_eq_true] at hp
    congr 1
    refine Array.ext hs.symm fun i h1 h2 => ?_
    exact (h i h2 h1).plain_eq (hp _ (by simp))
  | tuple hs h =>
    simp only [closed, List.all_eq_true] at hp
    congr 1
    refine Array.ext hs.symm fun i h1 h2 => ?_
    exact (h i h2 h1).plain_eq (hp _ (by simp))
  | func hs h ht k =>
    simp only [closed, Bool.and_eq_true, List.isEmpty_iff, Array.toList_eq_nil_iff] at hp
    obtain ⟨rfl, rfl⟩ := hp
    simp at hs ht
    simp [Array.eq_empty_of_size_eq_zero hs.symm, Array.eq_empty_of_size_eq_zero ht.symm]
  | iface h => simp [closed, plain] at hp
theorem VR.of_closed {m : Map} {v : Value} (hp : closed v = true) : VR m v v := by
  cases v <;> simp only [closed] at hp
  case agg cs =>
    refine .agg rfl fun i h1 h2 => .same ?_
    exact (List.all_eq_true.1 hp) _ (by simp)
  case tuple cs =>
    refine .tuple rfl fun i h1 h2 => .same ?_
    exact (List.all_eq_true.1 hp) _ (by simp)
  case func fn f c =>
    simp only [Bool.and_eq_true, List.isEmpty_iff, Array.toList_eq_nil_iff] at hp
    obtain ⟨rfl, rfl⟩ := hp
    exact .func rfl (fun i h1 => by simp at h1) rfl (fun i h1 => by simp at h1)
  all_goals exact .same hp
/-- What the kernel sees by itself. -/
theorem kr {p : Prop} (h : p := by kernel_rfl) : p := h
end Go.Ev
