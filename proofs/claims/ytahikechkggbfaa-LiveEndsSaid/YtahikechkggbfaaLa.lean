/- Chapter 20: calls of data. -/
import Derived.Test.YtahikechkggbfaaRows
import Derived.Test.YtahikechkggbfaaEvSh
import Derived.WalkKit
import Derived.Lib.Hide
import Derived.RegionTactic
namespace Go.Proofs.Ytahikechkggbfaa
open Go Go.Ev Go.RowKit
set_option linter.unusedVariables false
set_option linter.unusedSimpArgs false
set_option maxRecDepth 100000
namespace Lm
theorem ret_one {k : IntKind} {a b : Int} (h : a = b) : Ending.returned (.int k a) = .returned (.int k b) := by rw [h]
theorem tmod_emod (n m : Int) (hm : 0 < m) : n.tmod m = if 0 ≤ n then n % m else if n % m = 0 then 0 else n % m - m := by
  split
  · rename_i h; exact Int.tmod_eq_emod_of_nonneg h
  · rename_i h
    have h1 : n.tmod m = - ((-n) % m) := by
      have := Int.neg_tmod (-n) m
      rw [Int.neg_neg] at this
      rw [this, Int.tmod_eq_emod_of_nonneg (by omega)]
    have h2 : (-n) % m = if n % m = 0 then 0 else m - n % m := by
      have hd := Int.mul_ediv_add_emod n m
      have hp := Int.emod_nonneg n (by omega : m ≠ 0)
      have hq := Int.emod_lt_of_pos n hm
      split
      · rename_i h0
        have : m ∣ n := Int.dvd_of_emod_eq_zero h0
        exact Int.emod_eq_zero_of_dvd (Int.dvd_neg.2 this)
      · rename_i h0
        have e : -n = (m - n % m) + m * (-(n / m) - 1) := by
          rw [Int.mul_sub, Int.mul_neg, Int.mul_one]; omega
        rw [e, Int.add_mul_emod_self_left]
        exact Int.emod_eq_of_lt (by omega) (by omega)
    rw [h1, h2]; split <;> omega
set_option maxHeartbeats 400000 in
theorem within_any (n lo hi : Int) (w : World) (h0 : -9223372036854775808 ≤ n) (h1 : n ≤ 9223372036854775807) (h2 : 0 ≤ lo) (h3 : lo ≤ hi) (h4 : hi ≤ 1099511627776) :
    Calls Try.prog 12 #[.int .i64 n, .int .i64 lo, .int .i64 hi] w fun e w' => e = .returned (.int .i64 (lo + n % (hi - lo + 1))) ∧ w = w' := by
  have ht := tmod_emod n (hi - lo + 1) (by omega)
  have hp := Int.emod_nonneg n (by omega : hi - lo + 1 ≠ 0)
  have hq := Int.emod_lt_of_pos n (by omega : 0 < hi - lo + 1)
  generalize n % (hi - lo + 1) = r at *
  have b1 : -(hi - lo + 1) < n.tmod (hi - lo + 1) := by rw [ht]; split <;> (try split) <;> omega
  have b2 : n.tmod (hi - lo + 1) < hi - lo + 1 := by rw [ht]; split <;> (try split) <;> omega
  have Ht := Lib.hid ht
  clear ht
  go_enter Try.func12, Try.ntmps12
  go_wp2
  all_goals
    go_ret
    refine ⟨ret_one ?_, rfl⟩
    have := Ht.out
    revert this
    split <;> (try split) <;> intro this <;> omega

def i64B (n : Int) : Bool := decide (-9223372036854775808 ≤ n) && decide (n ≤ 9223372036854775807)
noncomputable def T0 : Tab := tabOf Try.prog
theorem progOk0 [Bs] : ProgOk Try.prog T0 := progOk_of (by kernel_rfl) (by kernel_rfl)
def inB (n lo hi : Int) : Bool := decide (-9223372036854775808 ≤ n) && decide (n ≤ 9223372036854775807) && decide (0 ≤ lo) && decide (lo ≤ hi) && decide (hi ≤ 1099511627776)
theorem quiet_eq {w w' : World} {e : Ending} {v : Value} (h : e = .returned v ∧ w = w') : e = .returned v ∧ Quiet w w' := ⟨h.1, by rw [← h.2]; exact Quiet.refl _⟩
def sp12 : List Value → Option Value
  | [.int .i64 n, .int .i64 lo, .int .i64 hi] => bif inB n lo hi then some (.int .i64 (lo + n % (hi - lo + 1))) else none
  | _ => none
noncomputable def T1 : Tab := { T0 with orc := addOrc T0.orc 12 sp12 }
theorem progOk1 [Bs] : ProgOk Try.prog T1 := progOk0.add 12 sp12 fun args v h => by
  unfold sp12 at h
  split at h
  · rename_i n lo hi; cases hb : (inB n lo hi)
    · rw [hb] at h; cases h
    · rw [hb] at h; cases h
      unfold inB at hb
      simp only [Bool.and_eq_true, decide_eq_true_eq] at hb
      obtain ⟨⟨⟨⟨h1, h2⟩, h3⟩, h4⟩, h5⟩ := hb
      exact ⟨rfl, rfl, fun w _ => (within_any n lo hi w h1 h2 h3 h4 h5).mono fun _ _ => quiet_eq⟩
  · cases h
theorem orc12 (n : Int) (lo : Int) (hi : Int) (h : inB n lo hi = true) : sp12 [.int .i64 n, .int .i64 lo, .int .i64 hi] = some (.int .i64 (lo + n % (hi - lo + 1))) := by
  simp only [sp12, h, cond_true]
theorem known_run : answers (.bool true) (evCall Try.prog T1 600 11 #[] ⟨.lf, 0⟩) = true := by kernel_rfl
def sp11 : List Value → Option Value
  | [] => some (.bool true)
  | _ => none
noncomputable def T2 : Tab := { T1 with orc := addOrc T1.orc 11 sp11 }
theorem progOk2 [Bs] : ProgOk Try.prog T2 := progOk1.know 11 sp11 fun args v h => by
  unfold sp11 at h
  split at h
  · cases h; exact ⟨rfl, rfl, acall_answers known_run⟩
  · cases h
theorem Gr.ne {H : Heap} {lo : Nat} {e : TypeId} {s len n c : Nat} {v : Value} {xs : List Value} (h : Gr H lo e s v len xs) {B2 : Nat} (hB : H.n ≤ B2) (B : Nat) (hv : v = .slice (some ⟨B, 0, none⟩) len (unk + s)) : blockOf (.slice (some ⟨B2, 0, none⟩) n c) ≠ some B := by
  intro h0
  simp only [blockOf, Option.some.injEq] at h0
  rcases h.at_ with ⟨h1, _⟩ | ⟨B3, h1, _, h3, _⟩
  · rw [h1] at hv; cases hv
  · rw [h1] at hv
    injection hv with hv _ _; injection hv with hv; injection hv with hv
    omega
/-- A block of another kind is not the slice's. -/
theorem Gr.neT {H : Heap} {lo : Nat} {e e' : TypeId} {s len : Nat} {v : Value} {xs cells : List Value} {ro : Bool} {D : Nat} (h : Gr H lo e s v len xs) (hD : H.get D = some ⟨cells, e', ro⟩) (he : e ≠ e') : ∀ B c k, v = .slice (some ⟨B, 0, none⟩) c k → D ≠ B := by
  intro B c k hv hDB
  rcases h.at_ with ⟨h1, _⟩ | ⟨B3, h1, h2, _, _⟩
  · rw [h1] at hv; cases hv
  · rw [h1] at hv
    injection hv with hv _ _; injection hv with hv; injection hv with hv
    subst hDB hv
    rw [h2] at hD
    injection hD with hD; injection hD with _ hD _
    exact he hD
theorem Gr.keepX {H H' : Heap} {lo X Y : Nat} {e e2 : TypeId} {s n : Nat} {v : Value} {xs cx cy : List Value} (g : Gr H lo e s v n xs) (gX : H.get X = some ⟨cx, e2, false⟩) (gY : H.get Y = some ⟨cy, e2, false⟩) (he : e ≠ e2) (hn : H.n ≤ H'.n) (fr : ∀ b, lo ≤ b → b < H.n → b ≠ X → b ≠ Y → H'.get b = H.get b) : Gr H' lo e s v n xs := by
  refine ⟨g.size, ?_⟩
  rcases g.at_ with h | ⟨B, h1, h2, h3, h4⟩
  · exact .inl h
  · exact .inr ⟨B, h1, by rw [fr B h4 h3 (fun h => Gr.neT g gX he B _ _ h1 h.symm) (fun h => Gr.neT g gY he B _ _ h1 h.symm)]; exact h2, Nat.lt_of_lt_of_le h3 hn, h4⟩
theorem Gr.one {H : Heap} {lo : Nat} {e : TypeId} {s len : Nat} {v : Value} {xs : List Value} (h : Gr H lo e s v len xs) : v.cells = #[v] ∧ Ev.one v = true := by
  rcases h.at_ with ⟨h1, _⟩ | ⟨B3, h1, _⟩ <;> (subst h1; exact ⟨rfl, rfl⟩)
theorem Gr.other {H H' : Heap} {lo lo2 : Nat} {e e2 : TypeId} {s s2 n n2 : Nat} {v v2 : Value} {xs xs2 : List Value} (g : Gr H lo e s v n xs) (g2 : Gr H lo2 e2 s2 v2 n2 xs2) (he : e ≠ e2) (hn : H.n ≤ H'.n) (fr : ∀ b, b < H.n → (∀ B c k, v2 = .slice (some ⟨B, 0, none⟩) c k → b ≠ B) → H'.get b = H.get b) : Gr H' lo e s v n xs := by
  refine ⟨g.size, ?_⟩
  rcases g.at_ with h | ⟨B, h1, h2, h3, h4⟩
  · exact .inl h
  · exact .inr ⟨B, h1, by rw [fr B h3 (Gr.neT g2 h2 (fun h => he h.symm))]; exact h2, Nat.lt_of_lt_of_le h3 hn, h4⟩
/-- A row of numbers that came in. -/
structure NumsA (H : Heap) (kd : IntKind) (v : Value) (l : List Int) : Prop where
  at_ : (∃ cap, v = .slice none 0 cap ∧ l = []) ∨ ∃ A off cap cells e ro, v = .slice (some ⟨A, off, none⟩) l.length cap ∧ H.get A = some ⟨cells, e, ro⟩ ∧ A < H.n ∧ ∀ k (h : k < l.length), cells[off + k * 1]? = some (.int kd l[k])
abbrev II := Int × Int × Int × Int × Int
def iiC (i : II) : List Value := [.int .i64 i.1, .int .i64 i.2.1, .int .i64 i.2.2.1, .int .i64 i.2.2.2.1, .int .u32 i.2.2.2.2]
def iis (l : List II) : List Value := l.flatMap iiC
theorem iis_snoc (l : List II) (i : II) : iis (l ++ [i]) = iis l ++ iiC i := by simp [iis]
theorem iis_len (l : List II) : (iis l).length = l.length * 5 := by
  induction l with
  | nil => rfl
  | cons a l ih => simp only [iis, List.flatMap_cons, List.length_append] at ih ⊢; rw [ih]; simp [iiC]; omega
theorem iis_at : ∀ (l : List II) (k : Nat) (i : II), l[k]? = some i → ((iis l).drop (0 + k * 5)).take 5 = iiC i := by
  intro l
  induction l with
  | nil => intro k i h; simp at h
  | cons a l ih =>
    intro k i h
    cases k with
    | zero => simp at h; subst h; simp [iis, iiC]
    | succ k =>
      have h2 := ih k i (by simpa using h)
      have e : (iis (a :: l)).drop (0 + (k + 1) * 5) = (iis l).drop (0 + k * 5) := by
        show (iiC a ++ iis l).drop _ = _
        rw [show 0 + (k + 1) * 5 = (iiC a).length + (0 + k * 5) by simp [iiC]; omega, List.drop_length_add_append]
      rw [e, h2]
/-- A block az it is made: the k-th operation. -/
def mkI (ops az bs : List Int) (i : Nat) : II :=
  if 0 < i ∧ 0 < (ops.getD i 0).tmod 3 then (3 + ops.getD i 0 % 2, (i : Int), az.getD i 0 % (i : Int), bs.getD i 0 % (i : Int), 20) else (0, (i : Int), 0, 0, (i : Int))
def mkC (ops az bs : List Int) (n : Nat) : List II := (List.range n).map (mkI ops az bs)
theorem mkC_succ (ops az bs : List Int) (n : Nat) : mkC ops az bs (n + 1) = mkC ops az bs n ++ [mkI ops az bs n] := by simp [mkC, List.range_succ]
theorem mkC_len (ops az bs : List Int) (n : Nat) : (mkC ops az bs n).length = n := by simp [mkC]
def mkO (outs : List Int) (n j : Nat) : List Int := (outs.take j).map fun x => x % (n : Int)
theorem getD_at {l : List Int} {k : Nat} {x : Int} (h : l[k]? = some x) : l.getD k 0 = x := by rw [List.getD_eq_getElem?_getD, h]; rfl
theorem Gr.ii {H : Heap} {lo : Nat} {v : Value} {l : List II} {a b c d n : Int} (h : Gr H lo 50 5 v (l.length + 1) (iis l ++ [.int .i64 a, .int .i64 b, .int .i64 c, .int .i64 d, .int .u32 n])) : Gr H lo 50 5 v (l ++ [(a, b, c, d, n)]).length (iis (l ++ [(a, b, c, d, n)])) := by
  rw [iis_snoc, List.length_append]
  exact h
theorem Gr.int {H : Heap} {lo : Nat} {v : Value} {l : List Int} {a : Int} (h : Gr H lo 3 1 v (l.length + 1) (l.map (Value.int .i64) ++ [.int .i64 a])) : Gr H lo 3 1 v (l ++ [a]).length ((l ++ [a]).map (Value.int .i64)) := by
  rw [List.length_append, List.map_append]
  exact h
theorem Gr.sl {H : Heap} {lo : Nat} {e : TypeId} {s len : Nat} {v : Value} {xs : List Value} (h : Gr H lo e s v len xs) : ∃ pt cap, v = .slice pt len cap := by
  rcases h.at_ with ⟨h1, h2⟩ | ⟨B3, h1, _⟩
  · subst h1 h2; exact ⟨_, _, rfl⟩
  · subst h1; exact ⟨_, _, rfl⟩
theorem ares_cell {T : Tab} {tm : Tr Value} {H : Heap} {rs : Array ResultVar} (t : Nat) (ty : TypeId) (p : Value) (H0 : Heap) {v : Value} (hrs : rs.toList = [.cell t ty]) (hp : (tm.get t).getD undef = p) (hH : H = H0) (hl : aload T ty p H0 = some v) : aresults T tm H rs = some v := by
  subst hH
  unfold aresults
  rw [hrs]
  simp only [results1, hp, hl]
def mkN (ops az bs : List Int) : Nat := min (min ops.length az.length) (min bs.length 30)
def mkM (outs : List Int) (n : Nat) : Nat := if n = 0 then 0 else min outs.length 6
def mkF (fl : Int) (n : Nat) : Int := if 0 < n ∧ fl.tmod 2 = 0 then fl % (n : Int) else -1
def mkW (wr : Bool) (n : Nat) : Int := if wr then (n : Int) + 1 else (n : Int)
/-- A block of data. -/
def pgV (pc : Option Addr) (n cc : Nat) (po : Option Addr) (m co : Nat) (fl vs : Int) : Value :=
  .agg ⟨[.slice pc n cc, .int .i64 0, .int .i64 0, .int .i64 0, .int .i64 0, .slice po m co, .slice none 0 0, .int .i64 fl, .int .u32 0, .int .i64 (-1), .int .i64 0, .int .u32 0, .int .i64 1, .int .i64 vs]⟩
def Made (H H' : Heap) (r : Value) (c : List II) (o : List Int) (fl vs : Int) : Prop :=
  ∃ pc cc po co, r = pgV pc c.length cc po o.length co fl vs ∧ Gr H' H.n 50 5 (.slice pc c.length cc) c.length (iis c) ∧ Gr H' H.n 3 1 (.slice po o.length co) o.length (o.map (Value.int .i64)) ∧ Up H.n H H'
end Lm
end Go.Proofs.Ytahikechkggbfaa
