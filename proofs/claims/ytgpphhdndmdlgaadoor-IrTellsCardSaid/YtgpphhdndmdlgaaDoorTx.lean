/- Chapter 19: a block as text: innkeeperlaw19.text, ir.Text. -/
import Derived.Test.YtgpphhdndmdlgaaDoorDg
import Derived.Test.YtgpphhdndmdlgaaDoorWr
namespace Go.Proofs.YtgpphhdndmdlgaaDoor
open Go Go.RowKit Go.Sort Go.Lib
set_option linter.unusedVariables false
set_option linter.unusedSimpArgs false
set_option maxRecDepth 100000
namespace Ls
abbrev I5 := Int × Int × Int × Int × Int
def line (x : I5) : List UInt8 := decZ x.2.1 ++ [32] ++ (decZ x.1 ++ [32]) ++ (decZ x.2.2.1 ++ [32]) ++ (decZ x.2.2.2.1 ++ [32]) ++ (decZ x.2.2.2.2 ++ [10])
def lines : List I5 → List UInt8
 | [] => []
 | x :: r => line x ++ lines r
theorem lines_app (a b : List I5) : lines (a ++ b) = lines a ++ lines b := by
 induction a with
 | nil => rfl
 | cons x r ih => simp [lines, ih]
def ok5 (x : I5) : Prop := (-4294967296 ≤ x.1 ∧ x.1 ≤ 4294967296) ∧ (-4294967296 ≤ x.2.1 ∧ x.2.1 ≤ 4294967296) ∧ (-4294967296 ≤ x.2.2.1 ∧ x.2.2.1 ≤ 4294967296) ∧ (-4294967296 ≤ x.2.2.2.1 ∧ x.2.2.2.1 ≤ 4294967296) ∧ (0 ≤ x.2.2.2.2 ∧ x.2.2.2.2 < 4294967296)
theorem line_len {x : I5} (h : ok5 x) : (line x).length ≤ 110 := by
 obtain ⟨⟨a1, a2⟩, ⟨b1, b2⟩, ⟨c1, c2⟩, ⟨d1, d2⟩, e1, e2⟩ := h
 have h1 := decZ_len x.1 (by omega) (by omega)
 have h2 := decZ_len x.2.1 (by omega) (by omega)
 have h3 := decZ_len x.2.2.1 (by omega) (by omega)
 have h4 := decZ_len x.2.2.2.1 (by omega) (by omega)
 have h5 := decZ_len x.2.2.2.2 (by omega) (by omega)
 simp [line]; omega
theorem lines_len {c : List I5} (h : ∀ x ∈ c, ok5 x) : (lines c).length ≤ 110 * c.length := by
 induction c with
 | nil => simp [lines]
 | cons x r ih =>
  have := line_len (h x (by simp))
  have := ih fun y hy => h y (by simp [hy])
  simp [lines]; omega
def Rows5 (w : World) (b o : Nat) (c : List I5) : Prop := ∀ (i : Nat) (x : I5), c[i]? = some x → w.cell? ⟨b, o + i * 5, none⟩ = some (.int .i64 x.1) ∧ w.cell? ⟨b, o + i * 5 + 1, none⟩ = some (.int .i64 x.2.1) ∧ w.cell? ⟨b, o + i * 5 + 2, none⟩ = some (.int .i64 x.2.2.1) ∧ w.cell? ⟨b, o + i * 5 + 3, none⟩ = some (.int .i64 x.2.2.2.1) ∧ w.cell? ⟨b, o + i * 5 + 4, none⟩ = some (.int .u32 x.2.2.2.2)
theorem lines_take {c : List I5} {k : Nat} {x : I5} (h : c[k]? = some x) : lines (c.take (k + 1)) = lines (c.take k) ++ line x := by
 rw [List.take_add_one, h, lines_app]; simp [lines]
theorem line_str (a : List UInt8) (x : I5) : (⟨⟨a⟩⟩ : ByteArray) ++ ⟨⟨decZ x.2.1⟩⟩ ++ ⟨#[32]⟩ ++ ⟨⟨decZ x.1⟩⟩ ++ ⟨#[32]⟩ ++ ⟨⟨decZ x.2.2.1⟩⟩ ++ ⟨#[32]⟩ ++ ⟨⟨decZ x.2.2.2.1⟩⟩ ++ ⟨#[32]⟩ ++ ⟨⟨decZ x.2.2.2.2⟩⟩ ++ ⟨#[10]⟩ = ⟨⟨a ++ line x⟩⟩ := by
 apply ByteArray.ext
 simp [line]
theorem below_drewN {B : Nat} {a w : World} (h : Below B a w) (n : Nat) : Below B a (w.drewN n) := ⟨h.os, h.tape, h.output, h.size, h.block⟩
theorem heap_old (w : World) (o : Obj) {i : Nat} (h : i < w.heap.size) : w.heap[i]? = (w.alloc o).heap[i]? := by
 simp only [World.alloc]
 rw [Array.getElem?_push_lt h]; simp [h]
set_option maxHeartbeats 4000000 in
theorem text_walk (c : List I5) (b o cap : Nat) (x1 x2 x3 x4 x5 x6 x7 x8 x9 x10 x11 x12 x13 : Value) (w : World) (hb : b < w.heap.size) (hc : ∀ x ∈ c, ok5 x) (hn : c.length ≤ 100) (hr : Rows5 w b o c) :
    Calls Tryd.prog 8 #[.agg #[.slice (some ⟨b, o, none⟩) c.length cap, x1, x2, x3, x4, x5, x6, x7, x8, x9, x10, x11, x12, x13]] w fun e w' => e = .returned (.string ⟨⟨lines c⟩⟩) ∧ Below w.heap.size w w' := by
 have Hr := Lib.hid hr
 have Hc := Lib.hid hc
 clear hr hc
 go_enter Tryd.func8, Tryd.ntmps8
 go_wp2_with fail
 go_loopw [3, 4] (fun s i wr => ∃ k : Nat, k ≤ c.length ∧ i = .int .i64 k ∧ s = .string ⟨⟨lines (c.take k)⟩⟩ ∧ Hid (Below w.heap.size w wr) ∧ Hid (wr.heap[w.heap.size]? = some (.cells #[.slice (some ⟨b, o, none⟩) c.length cap, x1, x2, x3, x4, x5, x6, x7, x8, x9, x10, x11, x12, x13] 32 (0, 0)))) (fun _ i _ => c.length - (Lib.intOf i).toNat)
 case atStart => exact ⟨0, Nat.zero_le _, rfl, rfl, Lib.hid ((Below.refl w.heap.size w).alloc (Nat.le_refl _) _), Lib.hid (heap_alloc_new w _)⟩
 case round =>
  obtain ⟨k, hk, rfl, rfl, HB, HX⟩ := hrel
  have hx0 : wr.cell? ⟨w.heap.size, 0, none⟩ = some (.slice (some ⟨b, o, none⟩) c.length cap) := by rw [Lib.cell_of_heap HX.out]; rfl
  have hsz := HB.out.size
  by_cases hkn : k < c.length
  ·obtain ⟨x, hx5⟩ : ∃ x, c[k]? = some x := ⟨c[k], List.getElem?_eq_getElem hkn⟩
   have cell : ∀ j, wr.cell? ⟨b, j, none⟩ = w.cell? ⟨b, j, none⟩ := fun j => HB.out.cell (p := ⟨b, j, none⟩) hb
   obtain ⟨e0, e1, e2, e3, e4⟩ := Hr.out k x hx5
   rw [← cell] at e0 e1 e2 e3 e4
   obtain ⟨⟨a1, a2⟩, ⟨b1, b2⟩, ⟨c1, c2⟩, ⟨d1, d2⟩, q1, q2⟩ := Hc.out x (List.mem_of_getElem? hx5)
   have Hx5 := Lib.hid hx5
   have hlk : (lines (c.take k)).length ≤ 11000 := by
    have := lines_len (c := c.take k) (fun y hy => Hc.out y (List.mem_of_mem_take hy))
    rw [List.length_take] at this; omega
   have m0 := decZ_len x.1 (by omega) (by omega)
   have m1 := decZ_len x.2.1 (by omega) (by omega)
   have m2 := decZ_len x.2.2.1 (by omega) (by omega)
   have m3 := decZ_len x.2.2.2.1 (by omega) (by omega)
   have m4 := decZ_len x.2.2.2.2 (by omega) (by omega)
   clear cell hx5
   have g0 : ¬ 9223372036854775807 < (lines (c.take k)).length + (decZ x.2.1).length := by omega
   have g1 : ¬ 9223372036854775807 < (lines (c.take k)).length + (decZ x.2.1).length + 1 := by omega
   have g2 : ¬ 9223372036854775807 < (lines (c.take k)).length + (decZ x.2.1).length + 1 + (decZ x.1).length := by omega
   have g3 : ¬ 9223372036854775807 < (lines (c.take k)).length + (decZ x.2.1).length + 1 + (decZ x.1).length + 1 := by omega
   have g4 : ¬ 9223372036854775807 < (lines (c.take k)).length + (decZ x.2.1).length + 1 + (decZ x.1).length + 1 + (decZ x.2.2.1).length := by omega
   have g5 : ¬ 9223372036854775807 < (lines (c.take k)).length + (decZ x.2.1).length + 1 + (decZ x.1).length + 1 + (decZ x.2.2.1).length + 1 := by omega
   have g6 : ¬ 9223372036854775807 < (lines (c.take k)).length + (decZ x.2.1).length + 1 + (decZ x.1).length + 1 + (decZ x.2.2.1).length + 1 + (decZ x.2.2.2.1).length := by omega
   have g7 : ¬ 9223372036854775807 < (lines (c.take k)).length + (decZ x.2.1).length + 1 + (decZ x.1).length + 1 + (decZ x.2.2.1).length + 1 + (decZ x.2.2.2.1).length + 1 := by omega
   have g8 : ¬ 9223372036854775807 < (lines (c.take k)).length + (decZ x.2.1).length + 1 + (decZ x.1).length + 1 + (decZ x.2.2.1).length + 1 + (decZ x.2.2.2.1).length + 1 + (decZ x.2.2.2.2).length := by omega
   have g9 : ¬ 9223372036854775807 < (lines (c.take k)).length + (decZ x.2.1).length + 1 + (decZ x.1).length + 1 + (decZ x.2.2.1).length + 1 + (decZ x.2.2.2.1).length + 1 + (decZ x.2.2.2.2).length + 1 := by omega
   have hw : IntKind.i64.wrap x.2.2.2.2 = x.2.2.2.2 := by rw [IntKind.wrap_i64]; omega
   go_wp2_with fail
   refine wp_region_quiet_lit (by kernel_rfl) (by kernel_rfl) ?_
   repeat (quiet_step (first | (go_at_call 25; exact Calls.quiet_of_same (digits_any _ (by omega) (by omega) _))))
   refine wpQuiet_nil ?_
   intro _ hw'
   obtain ⟨nq, hw''⟩ := hw'
   subst hw''
   go_wp2_with fail
   refine ⟨⟨k + 1, by omega, by go_num, ?_, Lib.hid (below_drewN (HB.out.alloc hsz _) nq), Lib.hid ?_⟩, by simp [Lib.intOf]; omega⟩
   ·rw [lines_take Hx5.out, ← line_str]
   ·exact heap_old _ _ (by have := (Array.getElem?_eq_some_iff.1 HX.out).1; exact this) ▸ HX.out
  ·obtain rfl : k = c.length := by omega
   rw [List.take_of_length_le (Nat.le_refl _)]
   go_wp2_with fail
   go_ret
   exact ⟨rfl, HB.out⟩
theorem itoa_decZ (n : Int) : Lib.itoa n = decZ n := by
 unfold Lib.itoa decZ
 split
 ·rw [show n.natAbs = (-n).toNat by omega]
 ·rfl
theorem isB_quiet {B b : Nat} {bs : List Value} {w w' : World} (h : Lib.IsBuilder 51 5 B b bs w) (q : Ev.Quiet w w') : Lib.IsBuilder 51 5 B b bs w' := by
 have key : ∀ p, Lib.BuilderAt 51 5 B b p bs w → Lib.BuilderAt 51 5 B b p bs w' := by
  intro p hp
  have hlt := Lib.BuilderAt.lt hp
  obtain ⟨hB, v, hb, hown, hne⟩ := hp
  exact ⟨hB, v, (q.block b hlt).trans hb, hown.kept (row := some b) ⟨q.os, q.tape, q.output, q.size, fun k hk _ => q.block k hk⟩ (Or.inr hne), hne⟩
 exact h.imp (key _) (key _)
theorem alloc_size (w : World) (o : Obj) : (w.alloc o).heap.size = w.heap.size + 1 := by
 show (w.heap.push o).size = _
 exact Array.size_push ..
theorem quiet_alloc (w : World) (o : Obj) : Ev.Quiet w (w.alloc o) := ⟨rfl, rfl, rfl, by rw [alloc_size]; omega, fun k hk => (heap_old w o hk).symm⟩
theorem quiet_trans {a b c : World} (h : Ev.Quiet a b) (k : Ev.Quiet b c) : Ev.Quiet a c := ⟨k.os.trans h.os, k.tape.trans h.tape, k.output.trans h.output, Nat.le_trans h.size k.size, fun i hi => (k.block i (Nat.lt_of_lt_of_le hi h.size)).trans (h.block i hi)⟩
theorem below_quiet {B : Nat} {a w w' : World} (h : Below B a w) (q : Ev.Quiet w w') (hB : B ≤ w.heap.size) : Below B a w' := ⟨q.os.trans h.os, q.tape.trans h.tape, q.output.trans h.output, Nat.le_trans h.size q.size, fun k hk => (q.block k (Nat.lt_of_lt_of_le hk hB)).trans (h.block k hk)⟩
def fld (x : I5) : Nat → Int | 0 => x.2.1 | 1 => x.1 | 2 => x.2.2.1 | _ => x.2.2.2.1
def pre (x : I5) : Nat → List UInt8
 | 0 => []
 | q + 1 => pre x q ++ (decZ (fld x q) ++ [32])
theorem pre_len {x : I5} (h : ok5 x) (q : Nat) : (pre x q).length ≤ 22 * q := by
 obtain ⟨⟨a1, a2⟩, ⟨b1, b2⟩, ⟨c1, c2⟩, ⟨d1, d2⟩, e1, e2⟩ := h
 induction q with
 | zero => simp [pre]
 | succ q ih =>
  have : (decZ (fld x q)).length ≤ 21 := by unfold fld; split <;> exact decZ_len _ (by omega) (by omega)
  simp [pre]; omega
theorem fld_ok {x : I5} (h : ok5 x) (q : Nat) : -4294967296 ≤ fld x q ∧ fld x q ≤ 4294967296 := by
 obtain ⟨a, b, c, d, e⟩ := h
 unfold fld; split
 ·exact b
 ·exact a
 ·exact c
 ·exact d
theorem line_pre (x : I5) : line x = pre x 4 ++ (decZ x.2.2.2.2 ++ [10]) := by simp [line, pre, fld]
end Ls
end Go.Proofs.YtgpphhdndmdlgaaDoor
