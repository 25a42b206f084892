/- Walks by hand: slices that grow, told plainly. -/
import Derived.Test.YtahikechkggbfaaEvSd
namespace Go.Ev
open Go
set_option linter.unusedVariables false
set_option linter.unusedSimpArgs false
/-- The same, told plainly. -/
theorem aappend_nil {T : Tab} {st xt e : TypeId} {xd : TypeDesc} {s0 by_ : Nat} {z : Value} (hu : T.under st = some (.slice e)) (hx : T.under xt = some xd) (hi : isIntD xd = false) (hs : T.size e = some (s0 + 1)) (hb : T.bytes e = some (by_ + 1)) (hz : T.zero e = some z)
    {H : Heap} {x : Value} {n : Nat} {new : List Value} (hsrc : asrc (s0 + 1) x H = some (n, new)) (hn : 0 < n) (hbig : n * (by_ + 1) ≤ 140737488355328) :
    aappend T st xt (.slice none 0 0) x H = some (.slice (some ⟨H.n, 0, none⟩) n (unk + (s0 + 1)), H.push ⟨new, e, false⟩) := by
  have en : n.beq 0 = false := by rw [beq_dec]; simp; omega
  have e2 : (n * (by_ + 1)).ble 140737488355328 = true := by rw [ble_dec]; simp [hbig]
  unfold aappend
  simp only [hu, hx, hi, hs, hb, hz, hsrc, cond_false, Nat.beq_refl, Bool.and_self, cond_true, en, e2]
theorem aappend_grow {T : Tab} {st xt e : TypeId} {xd : TypeDesc} {s0 by_ : Nat} {z : Value} (hu : T.under st = some (.slice e)) (hx : T.under xt = some xd) (hi : isIntD xd = false) (hs : T.size e = some (s0 + 1)) (hb : T.bytes e = some (by_ + 1)) (hz : T.zero e = some z)
    {H : Heap} {x : Value} {B len n : Nat} {xs new : List Value} (hget : H.get B = some ⟨xs, e, false⟩) (hxs : xs.length = len * (s0 + 1)) (hsrc : asrc (s0 + 1) x H = some (n, new)) (hone : new.all one = true) (hn : 0 < n) (hne : blockOf x ≠ some B)
    (hbig : (len + n) * (by_ + 1) ≤ 140737488355328) :
    aappend T st xt (.slice (some ⟨B, 0, none⟩) len (unk + (s0 + 1))) x H = some (.slice (some ⟨H.n, 0, none⟩) (len + n) (unk + (s0 + 1)), (H.kill B).push ⟨xs ++ new, e, false⟩) := by
  have en : n.beq 0 = false := by rw [beq_dec]; simp; omega
  have e1 : (blockOf x == some B) = false := by simpa using hne
  have e2 : unk.ble (unk + (s0 + 1)) = true := by rw [ble_dec]; simp
  have e3 : (0 + len * (s0 + 1)).ble xs.length = true := by rw [ble_dec]; simp [hxs]
  have e4 : ((len + n) * (by_ + 1)).ble 140737488355328 = true := by rw [ble_dec]; simp [hbig]
  have e7 : (xs.drop 0).take (len * (s0 + 1)) = xs := by rw [List.drop_zero, List.take_of_length_le (by rw [hxs]; exact Nat.le_refl _)]
  unfold aappend
  simp only [hu, hx, hi, hs, hb, hz, hsrc, cond_false, e1, hget, e2, cond_true, Nat.beq_refl, en, e3, hone, e4, Bool.and_self, e7]
theorem aops_call_to {P : Program} {T : Tab} {n : Nat} {ops : Array Oper} {K : St → Prop} {s : St} {l : List Oper} (t : Nat) (f : FuncId) (args : Array Value) (H0 : Heap) {R : Value → Heap → Prop} (he : l.isEmpty = false) (hw : awanted ops s.tm (hdO l) = true) (hd : ∀ v, dput n s.tm (hdO l).dst v = some (s.tm.put t (some v)))
    (ha : aop P T s.tm (hdO l) s.H = some (.enter f args, s.H)) (hH : s.H = H0) (hc : ACall P T f args H0 R) (hk : ∀ v H', R v H' → AOps P T n ops l.tail K ⟨s.tm.put t (some v), H'⟩) : AOps P T n ops l K s :=
  aops_call t f args he hw hd ha (by rw [hH]; exact hc) hk
def rowB (T : Tab) (t : TypeId) : Bool := match T.under t with | some d => isRow d | none => false
theorem aloadC_rowB {T : Tab} {t : TypeId} {n off : Nat} {cells l : List Value} (hu : rowB T t = true) (hs : T.size t = some n) (hl : l.length = n) (hx : (cells.drop off).take n = l) : aloadC T t cells off = some (.agg l.toArray) := by
  unfold rowB at hu
  split at hu
  · rename_i d hd; exact aloadC_row hd hs hu hl hx
  · cases hu
def cellB (T : Tab) (t : TypeId) : Bool := match T.under t with | some d => !isRow d | none => false
theorem aloadC_cellB {T : Tab} {t : TypeId} {n off : Nat} {cells : List Value} {x : Value} (hu : cellB T t = true) (hs : T.size t = some n) (hx : cells[off]? = some x) : aloadC T t cells off = some x := by
  unfold cellB at hu
  split at hu
  · rename_i d hd; exact aloadC_one hd hs (by simpa using hu) hx
  · cases hu
theorem bodyQ_ret_to {T : Tab} {rs : Array ResultVar} {R : Value → Heap → Prop} {s : St} (v : Value) (H : Heap) (h : aresults T s.tm s.H rs = some v) (hH : s.H = H) (hr : R v H) : bodyQ T rs R .ret s := bodyQ_ret ⟨v, h, by rw [hH]; exact hr⟩
theorem bodyQ_normal_to {T : Tab} {rs : Array ResultVar} {R : Value → Heap → Prop} {s : St} (v : Value) (H : Heap) (h : aresults T s.tm s.H rs = some v) (hH : s.H = H) (hr : R v H) : bodyQ T rs R .normal s := bodyQ_normal ⟨v, h, by rw [hH]; exact hr⟩
end Go.Ev
