/- Chapter 19: instructions in a row; values of code that grows. -/
import Derived.Test.YtgpphhdndmdlgaaKn
import Derived.Test.YtgpphhdndmdlgaaKj
import Derived.Test.YtgpphhdndmdlgaaKk
namespace Go.Proofs.Ytgpphhdndmdlgaa
open Go Go.Ev Go.RowKit
set_option linter.unusedVariables false
set_option linter.unusedSimpArgs false
set_option maxRecDepth 100000
namespace Ls
structure Ms where
 d : List Int
 r : List Int
 fl : Int
 pc : Int
def canM (op : Int) (d r : Nat) : Bool := decide (nD0 op ≤ d) && (decide (nR0 op ≤ r) && (decide (d - nD0 op + nD1 op ≤ 16) && decide (r - nR0 op + nR1 op ≤ 16)))
def tpk (l : List Int) (k : Nat) : Int := l.getD (l.length - k) 0
def lss (l : List Int) (k : Nat) : List Int := l.take (l.length - k)
def doD (op n : Int) (d r : List Int) : List Int :=
 if op = 1 ∨ op = 2 then d ++ [n] else if op = 3 then d ++ [tpk d 1] else if op = 4 then lss d 1 else if op = 5 then lss d 2 ++ [tpk d 1, tpk d 2]
 else if op = 6 then d ++ [tpk d 2] else if op = 7 then lss d 1 else if op = 8 then d ++ [tpk r 1]
 else if op = 25 then lss d 2 else if 16 ≤ op ∧ op ≤ 25 then lss d 2 ++ [doR op (tpk d 2) (tpk d 1)] else if op = 40 then lss d 1 else d
def doRs (op nx : Int) (d r : List Int) : List Int :=
 if op = 7 then r ++ [tpk d 1] else if op = 8 then lss r 1 else if op = 38 then r ++ [nx] else if op = 39 then lss r 1 else r
def doFl (op : Int) (d : List Int) (fl : Int) : Int := if 16 ≤ op ∧ op ≤ 25 then doF op (tpk d 2) (tpk d 1) else fl
def doPc (op n nx : Int) (d r : List Int) (fl : Int) : Int :=
 if op = 39 then tpk r 1 else if op = 40 then tpk d 1 else if op = 32 ∨ op = 38 ∨ hB op fl = true then IntKind.u32.wrap (nx + signZ n) else nx
def doM (op n nx : Int) (s : Ms) : Ms := ⟨doD op n s.d s.r, doRs op nx s.d s.r, doFl op s.d s.fl, doPc op n nx s.d s.r s.fl⟩
def stepM (x : Int × Int) (s : Ms) : Option Ms :=
 if canM x.1 s.d.length s.r.length = true then some (doM x.1 x.2 (IntKind.u32.wrap (s.pc + sizeZ x.1)) s) else none
def runM (l : List (Int × Int)) (s : Ms) : Nat → Option Ms
 | 0 => some s
 | k + 1 => match runM l s k with | some t => (match l[k]? with | some x => stepM x t | none => some t) | none => none
theorem runM_succ {l : List (Int × Int)} {s : Ms} {k : Nat} {x : Int × Int} (h : l[k]? = some x) : runM l s (k + 1) = (runM l s k).bind (stepM x) := by
 show (match runM l s k with | some t => _ | none => none) = _
 cases runM l s k with
 | none => rfl
 | some t => show (match l[k]? with | some x => _ | none => _) = _; rw [h]; rfl
-- values
def valV (c : List II) (d r : List Int) : List Int := evV c d r c.length
@[simp] theorem valV_len (c : List II) (d r : List Int) : (valV c d r).length = c.length := evV_len c d r _
theorem getD_app0 (V : List Int) (n : Nat) (m : Nat) : (V ++ List.replicate m 0).getD n 0 = V.getD n 0 := by
 rw [List.getD_eq_getElem?_getD, List.getD_eq_getElem?_getD, List.getElem?_append]
 split
 ·rfl
 ·rename_i h
  rw [List.getElem?_eq_none (by omega : V.length ≤ n), List.getElem?_replicate]
  split <;> rfl
theorem mkV_app (d r V : List Int) (m : Nat) (x : II) : mkV d r (V ++ List.replicate m 0) x = mkV d r V x := by
 unfold mkV; rw [getD_app0, getD_app0]
theorem evV_app (c m : List II) (d r : List Int) : ∀ k, k ≤ c.length → evV (c ++ m) d r k = evV c d r k ++ List.replicate m.length 0
 | 0, _ => by simp [evV, List.replicate_append_replicate]
 | k + 1, h => by
  have hx : c[k]? = some (c[k]'(by omega)) := List.getElem?_eq_getElem _
  generalize c[k]'(by omega) = x at hx
  rw [evV_succ hx, evV_succ (c := c ++ m) (x := x) (by rw [List.getElem?_append_left (by omega)]; exact hx), evV_app c m d r k (by omega), mkV_app, List.set_append_left _ _ (by simp; omega)]
theorem valV_snoc (c : List II) (x : II) (d r : List Int) : valV (c ++ [x]) d r = valV c d r ++ [mkV d r (valV c d r) x] := by
 unfold valV
 rw [List.length_append, List.length_singleton, evV_succ (c := c ++ [x]) (x := x) (by simp), evV_app c [x] d r c.length (Nat.le_refl _), mkV_app]
 rw [List.set_append_right _ _ (by simp)]
 simp
def Pre (V W : List Int) : Prop := ∃ m, W = V ++ m
theorem Pre.refl (V : List Int) : Pre V V := ⟨[], by simp⟩
theorem Pre.trans {U V W : List Int} (h : Pre U V) (k : Pre V W) : Pre U W := by obtain ⟨m, rfl⟩ := h; obtain ⟨n, rfl⟩ := k; exact ⟨m ++ n, by simp⟩
theorem Pre.snoc (c : List II) (x : II) (d r : List Int) : Pre (valV c d r) (valV (c ++ [x]) d r) := ⟨_, valV_snoc c x d r⟩
theorem Pre.getD {V W : List Int} (h : Pre V W) {n : Nat} (hn : n < V.length) : W.getD n 0 = V.getD n 0 := by
 obtain ⟨m, rfl⟩ := h
 rw [List.getD_eq_getElem?_getD, List.getD_eq_getElem?_getD, List.getElem?_append_left hn]
theorem Pre.putL {V W : List Int} (h : Pre V W) (l : List Int) (n : Nat) {out : List Int} (ho : ∀ x ∈ out, 0 ≤ x ∧ x < (V.length : Int)) : putL W l n out = putL V l n out := by
 unfold Ls.putL
 rw [List.map_congr_left fun x hx => h.getD (by have := ho x hx; omega)]
theorem putL_len {V l : List Int} {n : Nat} {out : List Int} (hn : n ≤ l.length) : (putL V l n out).length = l.length - n + out.length := by
 unfold putL; simp
theorem putL_app (V l : List Int) (n : Nat) (out m : List Int) : putL V l n (out ++ m) = putL V l n out ++ m.map fun x => V.getD x.toNat 0 := by
 unfold putL; simp
theorem tpk_snoc (l : List Int) (x : Int) : tpk (l ++ [x]) 1 = x := by
 unfold tpk; rw [List.getD_eq_getElem?_getD]; simp
theorem lss_snoc (l : List Int) (x : Int) : lss (l ++ [x]) 1 = l := by unfold lss; simp
theorem tpk_two (l : List Int) (x : Int) (hl : 1 ≤ l.length) : tpk (l ++ [x]) 2 = tpk l 1 := by
 unfold tpk; rw [List.getD_eq_getElem?_getD, List.getD_eq_getElem?_getD, List.getElem?_append_left (by simp; omega)]; simp
theorem lss_lss (l : List Int) (hl : 2 ≤ l.length) : lss (lss l 1) 1 = lss l 2 := by
 unfold lss; rw [List.take_take, List.length_take]; congr 1; omega
theorem tpk_lss (l : List Int) (hl : 2 ≤ l.length) : tpk (lss l 1) 1 = tpk l 2 := by
 unfold tpk lss; rw [List.getD_eq_getElem?_getD, List.getD_eq_getElem?_getD, List.getElem?_take]; rw [List.length_take, if_pos (by omega)]; congr 2; omega
theorem lss_len (l : List Int) (k : Nat) : (lss l k).length = l.length - k := by unfold lss; simp
theorem snoc_of (l : List Int) (h : 1 ≤ l.length) : l = lss l 1 ++ [tpk l 1] := by
 unfold lss tpk
 rw [List.getD_eq_getElem?_getD, List.getElem?_eq_getElem (by omega)]
 conv => lhs; rw [← List.take_append_drop (l.length - 1) l]
 congr 1
 rw [List.drop_eq_getElem_cons (by omega), List.drop_of_length_le (by omega)]
 rfl
theorem take_tp (l : List Int) (n : Nat) (h : n < l.length) : l.take (l.length - n) = l.take (l.length - (n + 1)) ++ [argD l n] := by
 have e : l.length - n = (l.length - (n + 1)) + 1 := by omega
 rw [e, List.take_add_one]
 congr 1
 unfold argD
 rw [List.getD_eq_getElem?_getD, show l.length - 1 - n = l.length - (n + 1) by omega, List.getElem?_eq_getElem (by omega)]
 rfl
theorem pop_val {op : Int} {c c1 : List II} {l l1 : List Int} {nd m1 v : Int} {d0 r0 s0 : List Int} (h : popC op c l nd = (c1, l1, m1, v)) (hs : (op = 1 ∧ s0 = d0) ∨ (op = 2 ∧ s0 = r0)) (hl : ∀ x ∈ l, 0 ≤ x ∧ x < (c.length : Int)) (hn : 0 ≤ nd) (hle : nd ≤ (s0.length : Int)) (h1 : 1 ≤ (putL (valV c d0 r0) s0 nd.toNat l).length) :
    Pre (valV c d0 r0) (valV c1 d0 r0) ∧ putL (valV c1 d0 r0) s0 m1.toNat l1 = lss (putL (valV c d0 r0) s0 nd.toNat l) 1 ∧ (valV c1 d0 r0).getD v.toNat 0 = tpk (putL (valV c d0 r0) s0 nd.toNat l) 1 ∧ m1 ≤ (s0.length : Int) ∧ (0 ≤ v ∧ v < (c1.length : Int)) ∧ c.length ≤ c1.length ∧ (∀ x ∈ l1, 0 ≤ x ∧ x < (c1.length : Int)) ∧ 0 ≤ m1 := by
 rcases nil_or_snoc l with rfl | ⟨t, x, rfl⟩
 ·rw [popC_nil] at h; cases h
  have hlen : nd.toNat < s0.length := by rw [putL_len (by omega)] at h1; simp at h1; omega
  have hmk : mkV d0 r0 (valV c d0 r0) (op, ((c.length : Nat) : Int), 0, 0, nd) = argD s0 nd.toNat := by
   unfold mkV
   rcases hs with ⟨rfl, rfl⟩ | ⟨rfl, rfl⟩ <;> simp
  have e : putL (valV c d0 r0) s0 nd.toNat [] = putL (valV c d0 r0) s0 (nd + 1).toNat [] ++ [argD s0 nd.toNat] := by
   unfold putL; simp only [List.map_nil, List.append_nil]
   rw [take_tp s0 nd.toNat hlen, show (nd + 1).toNat = nd.toNat + 1 by omega]
  refine ⟨Pre.snoc _ _ _ _, ?_, ?_, by omega, ⟨by omega, by simp; omega⟩, by simp, fun x hx => (by simp at hx), by omega⟩
  ·rw [e, lss_snoc]; unfold putL; simp
  ·rw [e, tpk_snoc, valV_snoc, hmk, List.getD_eq_getElem?_getD]; simp
 ·rw [popC_snoc] at h; cases h
  refine ⟨Pre.refl _, ?_, ?_, hle, hl _ (by simp), Nat.le_refl _, fun y hy => hl y (by simp [hy]), hn⟩
  ·rw [putL_app]; simp only [List.map_cons, List.map_nil]; rw [lss_snoc]
  ·rw [putL_app]; simp only [List.map_cons, List.map_nil]; rw [tpk_snoc]
theorem pop_cnt {op : Int} {c c1 : List II} {l l1 : List Int} {nd m1 v : Int} (h : popC op c l nd = (c1, l1, m1, v)) : (l = [] ∧ l1 = [] ∧ m1 = nd + 1) ∨ (l.length = l1.length + 1 ∧ m1 = nd) := by
 rcases nil_or_snoc l with rfl | ⟨t, x, rfl⟩
 ·rw [popC_nil] at h; cases h; exact .inl ⟨rfl, rfl, rfl⟩
 ·rw [popC_snoc] at h; cases h; exact .inr ⟨by simp, rfl⟩
end Ls
end Go.Proofs.Ytgpphhdndmdlgaa
