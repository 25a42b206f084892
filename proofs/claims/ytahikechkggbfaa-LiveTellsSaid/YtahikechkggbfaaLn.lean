/- Chapter 20: arguments that come in. -/
import Derived.Test.YtahikechkggbfaaLm
import Derived.Test.YtahikechkggbfaaEvRo
namespace Go.Proofs.Ytahikechkggbfaa
open Go Go.Ev Go.ChangeShapes Go.WideShapes Go.ChangeAt Go.RowKit
set_option linter.unusedVariables false
set_option linter.unusedSimpArgs false
set_option maxRecDepth 100000
namespace Lm
theorem own : ownKnob Try.prog.godebug = none := by kernel_rfl
theorem laidOut : laidOutB Try.prog = true := by kernel_rfl
theorem wf_int {n : Int} (h : (Lit.int .i64 n).wf = true) : i64B n = true := by
  simp [Lit.wf, IntKind.min, IntKind.max, IntKind.signed, IntKind.bits] at h; simp [i64B]; omega
theorem nums_plain {kd : IntKind} {l : List Int} : ∀ x ∈ l.map (Value.int kd), plain x = true := fun x hx => by
  obtain ⟨y, _, rfl⟩ := List.mem_map.1 hx; rfl
theorem nums_row {H : Heap} {kd : IntKind} {e : TypeId} {a : Option Addr} {l : List Int} {cap : Nat} (h : (a = none ∧ l.length = 0 ∧ l.map (Value.int kd) = []) ∨ ∃ B off, a = some ⟨B, off, none⟩ ∧ H.get B = some ⟨l.map (Value.int kd), e, true⟩ ∧ B < H.n ∧ (l.map (Value.int kd) = [] ∨ off = 0)) : NumsA H kd (.slice a l.length cap) l := by
  rcases h with ⟨rfl, h0, _⟩ | ⟨B, off, rfl, g, hB, ho⟩
  · obtain rfl := List.length_eq_zero_iff.1 h0
    exact ⟨.inl ⟨cap, rfl, rfl⟩⟩
  · refine ⟨.inr ⟨B, off, cap, _, _, _, rfl, g, hB, fun k hk => ?_⟩⟩
    rcases ho with ho | rfl
    · simp at ho; subst ho; simp at hk
    · rw [show 0 + k * 1 = k by omega, List.getElem?_map, List.getElem?_eq_getElem hk]; rfl
theorem NumsA.keep {H H' : Heap} {kd : IntKind} {v : Value} {l : List Int} (h : NumsA H kd v l) (hn : H.n ≤ H'.n) (hg : ∀ b, b < H.n → H'.get b = H.get b) : NumsA H' kd v l := by
  rcases h.at_ with h | ⟨A, off, cap, cells, e, ro, h1, gA, hA, hb⟩
  · exact ⟨.inl h⟩
  · exact ⟨.inr ⟨A, off, cap, cells, e, ro, h1, by rw [hg A hA]; exact gA, Nat.lt_of_lt_of_le hA hn, hb⟩⟩
/-- A row of numbers, as it comes in. -/
structure Row1 (W : World) (A : Option Addr) (cap : Nat) (l : List Int) : Prop where
  row : RowW W A (l.map (Value.int .i64))
  wf : ∀ x ∈ l, i64B x = true
  cap_ : cap ≤ maxLen
  nil : A = none → l.length = 0
section
variable {H : Type} {enc : TypeId × Value → H} {W : World} {r : Reach} {b0 : Nat}
theorem open_row1 {v : Value} {d : DataW H} {ps : List MemPlace} (hv : Value.okWide Try.prog W r b0 22 v) (h : DataW.Trod enc Try.prog W 0 (fun _ => true) true 22 v d ps) : ∃ A cap l, v = .slice A l.length cap ∧ Row1 W A cap l := by
  obtain ⟨A, cap, l, rfl, h1, h2, h3⟩ := open_nums Try.underlying22 Try.underlying3 (by kernel_rfl) hv h
  refine ⟨A, cap, l, rfl, h1, fun x hx => wf_int (h2 x hx), h3.2, fun e => ?_⟩
  rcases h1.at_ with ⟨_, h⟩ | ⟨_, _, _, _, _, h, _⟩
  · simpa using h
  · rw [e] at h; cases h
theorem ctypes24 : Try.prog.cellTypes Try.prog.depth 24 = some [22, 22, 22, 22, 3, 4] := by kernel_rfl
theorem open_draw {v : Value} {d : DataW H} {ps : List MemPlace} (hv : Value.okWide Try.prog W r b0 24 v) (h : DataW.Trod enc Try.prog W 0 (fun _ => true) true 24 v d ps) :
    ∃ A1 c1 l1 A2 c2 l2 A3 c3 l3 A4 c4 l4 fl wr, v = .agg #[.slice A1 (List.length l1) c1, .slice A2 (List.length l2) c2, .slice A3 (List.length l3) c3, .slice A4 (List.length l4) c4, .int .i64 fl, .bool wr] ∧ Row1 W A1 c1 l1 ∧ Row1 W A2 c2 l2 ∧ Row1 W A3 c3 l3 ∧ Row1 W A4 c4 l4 ∧ i64B fl = true := by
  obtain ⟨cs, rfl, hsz⟩ := okWide_struct Try.underlying24 hv
  have hrow : Row.okWide Try.prog W r b0 24 cs := by
    have h2 := hv
    simp only [Value.okWide, Try.underlying24] at h2
    obtain ⟨cs', e, _, h3⟩ := h2
    injection e with e; subst e; exact h3
  obtain ⟨ts, hts, _, hc⟩ := hrow
  rw [ctypes24] at hts
  injection hts with hts; subst hts
  have hsz6 : cs.size = 6 := hsz.trans (by kernel_rfl)
  obtain ⟨fuel, hf⟩ := h
  obtain ⟨ys, n', _, _, _, hyl, hfl⟩ := DataW.trod_struct Try.underlying24 hf
  obtain ⟨l⟩ := cs
  obtain ⟨x0, x1, x2, x3, x4, x5, rfl⟩ : ∃ a b c d e f, l = [a, b, c, d, e, f] := by
    match l, hsz6 with
    | [a, b, c, d, e, f], _ => exact ⟨a, b, c, d, e, f, rfl⟩
  have hyl6 : ys.length = 6 := hyl
  obtain ⟨u0, e0, k0⟩ := hc 0 x0 rfl
  obtain ⟨u1, e1, k1⟩ := hc 1 x1 rfl
  obtain ⟨u2, e2, k2⟩ := hc 2 x2 rfl
  obtain ⟨u3, e3, k3⟩ := hc 3 x3 rfl
  obtain ⟨u4, e4, k4⟩ := hc 4 x4 rfl
  obtain ⟨u5, e5, k5⟩ := hc 5 x5 rfl
  cases e0; cases e1; cases e2; cases e3; cases e4; cases e5
  have w0 : Value.okWide Try.prog W r b0 22 x0 := by simp only [Value.okWide, Try.underlying22]; exact k0
  have w1 : Value.okWide Try.prog W r b0 22 x1 := by simp only [Value.okWide, Try.underlying22]; exact k1
  have w2 : Value.okWide Try.prog W r b0 22 x2 := by simp only [Value.okWide, Try.underlying22]; exact k2
  have w3 : Value.okWide Try.prog W r b0 22 x3 := by simp only [Value.okWide, Try.underlying22]; exact k3
  have w4 : Value.okWide Try.prog W r b0 3 x4 := by simp only [Value.okWide, Try.underlying3]; exact k4
  have w5 : Value.okWide Try.prog W r b0 4 x5 := by simp only [Value.okWide, Try.underlying4]; exact k5
  obtain ⟨a0, q0, m0, rfl⟩ := okWide_slice Try.underlying22 w0
  obtain ⟨a1, q1, m1, rfl⟩ := okWide_slice Try.underlying22 w1
  obtain ⟨a2, q2, m2, rfl⟩ := okWide_slice Try.underlying22 w2
  obtain ⟨a3, q3, m3, rfl⟩ := okWide_slice Try.underlying22 w3
  obtain ⟨A1, c1, l1, h1, r1⟩ := open_row1 (d := (ys[0]'(by omega)).1) (ps := (ys[0]'(by omega)).2) w0 ⟨n', (hfl 0 _ rfl).trans (List.getElem?_eq_getElem (by omega))⟩
  obtain ⟨A2, c2, l2, h2, r2⟩ := open_row1 (d := (ys[1]'(by omega)).1) (ps := (ys[1]'(by omega)).2) w1 ⟨n', (hfl 1 _ rfl).trans (List.getElem?_eq_getElem (by omega))⟩
  obtain ⟨A3, c3, l3, h3, r3⟩ := open_row1 (d := (ys[2]'(by omega)).1) (ps := (ys[2]'(by omega)).2) w2 ⟨n', (hfl 2 _ rfl).trans (List.getElem?_eq_getElem (by omega))⟩
  obtain ⟨A4, c4, l4, h4, r4⟩ := open_row1 (d := (ys[3]'(by omega)).1) (ps := (ys[3]'(by omega)).2) w3 ⟨n', (hfl 3 _ rfl).trans (List.getElem?_eq_getElem (by omega))⟩
  obtain ⟨o4, z4, _, wf4⟩ := DataW.trod_int (cs := [x4]) (x := ys[4]'(by omega)) Try.underlying3 ((hfl 4 _ rfl).trans (List.getElem?_eq_getElem (by omega)))
  obtain ⟨o5, z5, _⟩ := DataW.trod_bool (cs := [x5]) (x := ys[5]'(by omega)) Try.underlying4 ((hfl 5 _ rfl).trans (List.getElem?_eq_getElem (by omega)))
  injection z4 with z4; injection z5 with z5
  exact ⟨A1, c1, l1, A2, c2, l2, A3, c3, l3, A4, c4, l4, o4, o5, by rw [h1, h2, h3, h4, z4, z5], r1, r2, r3, r4, wf_int wf4⟩
def spC (i : Int × Int) : List Value := [.int .i64 i.1, .int .i64 i.2]
def spCs (l : List (Int × Int)) : List Value := l.flatMap spC
theorem spCs_get : ∀ (l : List (Int × Int)) (i : Nat) (hi : i < l.length), (spCs l)[i * 2]? = some (.int .i64 l[i].1) ∧ (spCs l)[i * 2 + 1]? = some (.int .i64 l[i].2)
  | a :: l, 0, _ => ⟨rfl, rfl⟩
  | a :: l, i + 1, h => by
    have := spCs_get l i (by simpa using h)
    rw [show (i + 1) * 2 = i * 2 + 1 + 1 by omega]
    exact this
theorem spCs_len (l : List (Int × Int)) : (spCs l).length = l.length * 2 := by
  induction l with
  | nil => rfl
  | cons a l ih => show (spC a ++ spCs l).length = _; rw [List.length_append, ih]; simp [spC]; omega
theorem spCs_plain {l : List (Int × Int)} : ∀ x ∈ spCs l, plain x = true := fun x hx => by
  obtain ⟨i, _, h⟩ := List.mem_flatMap.1 hx
  simp [spC] at h
  rcases h with rfl | rfl <;> rfl
theorem open_spans {v : Value} {d : DataW H} {ps : List MemPlace} (hv : Value.okWide Try.prog W r b0 34 v) (h : DataW.Trod enc Try.prog W 0 (fun _ => true) true 34 v d ps) :
    ∃ (A : Option Addr) (cap : Nat) (L : List (Int × Int)), v = .slice A L.length cap ∧ RowW W A (spCs L) ∧ (∀ i ∈ L, (i64B i.1 && i64B i.2) = true) ∧ cap ≤ maxLen ∧ (A = none → L.length = 0) := by
  obtain ⟨a0, len, cap, rfl⟩ := okWide_slice Try.underlying34 hv
  obtain ⟨fuel, hf⟩ := h
  rcases open_slice_fields Try.underlying34 Try.underlying38 (by kernel_rfl) (by kernel_rfl) hf with ⟨hcs, hx⟩ | ⟨a, len', cap', m, D, Pl, hcs, _, hl, hm, hmm, hx, hi⟩
  · simp [Value.cells] at hcs
    obtain ⟨rfl, rfl, rfl⟩ := hcs
    exact ⟨none, 0, [], rfl, ⟨.inl ⟨rfl, rfl⟩⟩, fun _ h => (by cases h), by unfold maxLen; omega, fun _ => rfl⟩
  · simp [Value.cells] at hcs
    obtain ⟨rfl, rfl, rfl⟩ := hcs
    simp only [if_true] at hmm
    subst hmm
    have hcell : ∀ i, ∃ x : Int × Int, i < m → (i64B x.1 && i64B x.2) = true ∧ ∀ j, j < 2 → W.cell? (a.add (i * 2 + j)) = (spC x)[j]? := by
      intro i
      by_cases him : i < m
      · obtain ⟨ys, n, _, _, _, hfl⟩ := hi i him
        obtain ⟨v0, y0, c0, _, t0⟩ := hfl 0 _ rfl
        obtain ⟨v1, y1, c1, _, t1⟩ := hfl 1 _ rfl
        obtain ⟨o0, e0, _, w0⟩ := DataW.trod_int Try.underlying3 t0
        obtain ⟨o1, e1, _, w1⟩ := DataW.trod_int Try.underlying3 t1
        injection e0 with e0; injection e1 with e1
        subst e0 e1
        refine ⟨(o0, o1), fun _ => ⟨by rw [wf_int w0, wf_int w1]; rfl, fun j hj => ?_⟩⟩
        rcases (by omega : j = 0 ∨ j = 1) with rfl | rfl
        · exact c0
        · exact c1
      · exact ⟨(0, 0), fun h => absurd h him⟩
    obtain ⟨g, hg⟩ := Classical.axiomOfChoice hcell
    obtain ⟨hspot, hb⟩ := has_block Try.underlying34 hv
    have hL : ((List.range len).map fun i => g i).length = len := by simp
    refine ⟨some a, _, (List.range len).map fun i => g i, by rw [hL], RowW.of_cells hspot hb fun q x hx => ?_, fun x hx => ?_, hm, fun h => by cases h⟩
    · have hq : q < (spCs ((List.range len).map fun i => g i)).length := (List.getElem?_eq_some_iff.1 hx).1
      rw [spCs_len, hL] at hq
      have him : q / 2 < len := by omega
      have h1 := (hg (q / 2) (by omega)).2 (q % 2) (by omega)
      have h2 := spCs_get ((List.range len).map fun i => g i) (q / 2) (by rw [hL]; exact him)
      rcases (by omega : q % 2 = 0 ∨ q % 2 = 1) with h0 | h0
      · rw [h0] at h1
        rw [show q / 2 * 2 = q by omega] at h1 h2
        rw [h2.1] at hx
        rw [show q + 0 = q from rfl] at h1
        rw [h1, ← hx]; simp [spC]
      · rw [h0] at h1
        rw [show q / 2 * 2 + 1 = q by omega] at h1 h2
        rw [h2.2] at hx
        rw [h1, ← hx]; simp [spC]
    · obtain ⟨i, hi, rfl⟩ := List.mem_map.1 hx
      have hi2 : i < len := by simpa using hi
      exact (hg i (by omega)).1
end
theorem spans_row {H : Heap} {e : TypeId} {a : Option Addr} {l : List (Int × Int)} {cap : Nat} (h : (a = none ∧ l.length = 0 ∧ spCs l = []) ∨ ∃ B off, a = some ⟨B, off, none⟩ ∧ H.get B = some ⟨spCs l, e, true⟩ ∧ B < H.n ∧ (spCs l = [] ∨ off = 0)) : SpansA H (.slice a l.length cap) l := by
  rcases h with ⟨rfl, h0, _⟩ | ⟨B, off, rfl, g, hB, ho⟩
  · obtain rfl := List.length_eq_zero_iff.1 h0
    exact ⟨.inl ⟨cap, rfl, rfl⟩⟩
  · refine ⟨.inr ⟨B, off, cap, _, _, _, rfl, g, hB, fun k hk => ?_⟩⟩
    rcases ho with ho | rfl
    · have := spCs_len l; rw [ho] at this; simp at this; omega
    · rw [Nat.zero_add]; exact spCs_get l k hk
end Lm
end Go.Proofs.Ytahikechkggbfaa
