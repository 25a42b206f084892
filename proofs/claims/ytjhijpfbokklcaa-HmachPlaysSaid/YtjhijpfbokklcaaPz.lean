/- Chapter 4: arguments that come in. -/
import Derived.Test.YtjhijpfbokklcaaPn
import Derived.Test.YtjhijpfbokklcaaEvRo
namespace Go.Proofs.Ytjhijpfbokklcaa
open Go Go.Ev Go.ChangeShapes Go.WideShapes Go.ChangeAt Go.RowKit
set_option linter.unusedVariables false
set_option linter.unusedSimpArgs false
set_option maxRecDepth 100000
namespace Hm
theorem own : ownKnob Try.prog.godebug = none := by kernel_rfl
theorem laidOut : laidOutB Try.prog = true := by kernel_rfl
theorem insC_get {L : List Ins5} {i j : Nat} (hi : i < L.length) (hj : j < 5) : (insC L)[i * 5 + j]? = (insCs L[i])[j]? := by
  have := insC_at L i _ (List.getElem?_eq_getElem hi)
  have h2 := congrArg (fun l => l[j]?) this
  simp only [List.getElem?_take, List.getElem?_drop, if_pos hj] at h2
  rw [← h2]; congr 1; omega
theorem wf_int {n : Int} (h : (Lit.int .i64 n).wf = true) : i64B n = true := by
  simp [Lit.wf, IntKind.min, IntKind.max, IntKind.signed, IntKind.bits] at h; simp [i64B]; omega
theorem wf_int2 {n : Int} (h : (Lit.int .i64 n).wf = true) : -9223372036854775808 ≤ n ∧ n ≤ 9223372036854775807 := by
  simp [Lit.wf, IntKind.min, IntKind.max, IntKind.signed, IntKind.bits] at h; omega
theorem wf_u32 {n : Int} (h : (Lit.int .u32 n).wf = true) : 0 ≤ n ∧ n < 4294967296 := by
  simp [Lit.wf, IntKind.min, IntKind.max, IntKind.signed, IntKind.bits] at h; omega
theorem wf_u64 {n : Int} (h : (Lit.int .u64 n).wf = true) : 0 ≤ n ∧ n < 18446744073709551616 := by
  simp [Lit.wf, IntKind.min, IntKind.max, IntKind.signed, IntKind.bits] at h; omega
theorem wf_u8 {n : Int} (h : (Lit.int .u8 n).wf = true) : 0 ≤ n ∧ n < 256 := by
  simp [Lit.wf, IntKind.min, IntKind.max, IntKind.signed, IntKind.bits] at h; omega
/-- A slice of instructions that came in. -/
theorem open_ins {H : Type} {enc : TypeId × Value → H} {W : World} {r : Reach} {b0 : Nat} {v : Value} {d : DataW H} {ps : List MemPlace} (hv : Value.okWide Try.prog W r b0 22 v) (h : DataW.Trod enc Try.prog W 0 (fun _ => true) true 22 v d ps) :
    ∃ (A : Option Addr) (cap : Nat) (L : List Ins5), v = .slice A L.length cap ∧ RowW W A (insC L) ∧ (∀ i ∈ L, okA i) ∧ (L.length ≤ cap ∧ cap ≤ maxLen) ∧ (A = none → L.length = 0) := by
  obtain ⟨a0, len, cap, rfl⟩ := okWide_slice Try.underlying22 hv
  obtain ⟨fuel, hf⟩ := h
  rcases open_slice_fields Try.underlying22 Try.underlying48 (by kernel_rfl) (by kernel_rfl) hf with ⟨hcs, hx⟩ | ⟨a, len', cap', m, D, Pl, hcs, _, hl, hm, hmm, hx, hi⟩
  · simp [Value.cells] at hcs
    obtain ⟨rfl, rfl, rfl⟩ := hcs
    exact ⟨none, 0, [], rfl, ⟨.inl ⟨rfl, rfl⟩⟩, fun _ h => (by cases h), ⟨by simp, by unfold maxLen; omega⟩, fun _ => rfl⟩
  · simp [Value.cells] at hcs
    obtain ⟨rfl, rfl, rfl⟩ := hcs
    simp only [if_true] at hmm
    subst hmm
    have hcell : ∀ i, ∃ x : Ins5, i < m → okA x ∧ ∀ j, j < 5 → W.cell? (a.add (i * 5 + j)) = (insCs x)[j]? := by
      intro i
      by_cases him : i < m
      · obtain ⟨ys, n, _, _, _, hfl⟩ := hi i him
        obtain ⟨v0, y0, c0, _, t0⟩ := hfl 0 _ rfl
        obtain ⟨v1, y1, c1, _, t1⟩ := hfl 1 _ rfl
        obtain ⟨v2, y2, c2, _, t2⟩ := hfl 2 _ rfl
        obtain ⟨v3, y3, c3, _, t3⟩ := hfl 3 _ rfl
        obtain ⟨v4, y4, c4, _, t4⟩ := hfl 4 _ rfl
        obtain ⟨o0, e0, _, w0⟩ := DataW.trod_int Try.underlying3 t0
        obtain ⟨o1, e1, _, w1⟩ := DataW.trod_int Try.underlying3 t1
        obtain ⟨o2, e2, _, w2⟩ := DataW.trod_int Try.underlying3 t2
        obtain ⟨o3, e3, _, w3⟩ := DataW.trod_int Try.underlying3 t3
        obtain ⟨o4, e4, _, w4⟩ := DataW.trod_int Try.underlying30 t4
        injection e0 with e0; injection e1 with e1; injection e2 with e2; injection e3 with e3; injection e4 with e4
        subst e0 e1 e2 e3 e4
        refine ⟨(o0, o1, o2, o3, o4), fun _ => ⟨⟨wf_int w0, wf_int w1, wf_int w2, wf_int w3, (wf_u32 w4).1, (wf_u32 w4).2⟩, fun j hj => ?_⟩⟩
        rcases (by omega : j = 0 ∨ j = 1 ∨ j = 2 ∨ j = 3 ∨ j = 4) with rfl | rfl | rfl | rfl | rfl
        · exact c0
        · exact c1
        · exact c2
        · exact c3
        · exact c4
      · exact ⟨(0, 0, 0, 0, 0), fun h => absurd h him⟩
    obtain ⟨hspot, hb⟩ := has_block Try.underlying22 hv
    have hL : ((List.range len).map fun i => Classical.choose (hcell i)).length = len := by simp
    refine ⟨some a, _, (List.range len).map fun i => Classical.choose (hcell i), by rw [hL], RowW.of_cells hspot hb fun q x hx => ?_, fun x hx => ?_, ⟨by rw [hL]; exact hl, hm⟩, fun h => by cases h⟩
    · have hq : q < (insC ((List.range len).map fun i => Classical.choose (hcell i))).length := (List.getElem?_eq_some_iff.1 hx).1
      rw [insC_len, hL] at hq
      have him : q / 5 < len := by omega
      have h1 := (Classical.choose_spec (hcell (q / 5)) (by omega)).2 (q % 5) (by omega)
      have h2 := insC_get (L := (List.range len).map fun i => Classical.choose (hcell i)) (i := q / 5) (j := q % 5) (by rw [hL]; exact him) (by omega)
      rw [show q / 5 * 5 + q % 5 = q by omega] at h1 h2
      rw [h2] at hx
      rw [h1, ← hx]
      simp
    · obtain ⟨i, hi, rfl⟩ := List.mem_map.1 hx
      have hi2 : i < len := by simpa using hi
      exact (Classical.choose_spec (hcell i) (by omega)).1
theorem insC_plain {L : List Ins5} : ∀ x ∈ insC L, plain x = true := fun x hx => by
  obtain ⟨i, _, h⟩ := List.mem_flatMap.1 hx
  simp [insCs] at h
  rcases h with rfl | rfl | rfl | rfl | rfl <;> rfl
theorem nums_plain {kd : IntKind} {l : List Int} : ∀ x ∈ l.map (Value.int kd), plain x = true := fun x hx => by
  obtain ⟨y, _, rfl⟩ := List.mem_map.1 hx; rfl
theorem insA_of {H : Heap} {a : Option Addr} {L : List Ins5} {cap : Nat} (h : (a = none ∧ L.length = 0 ∧ insC L = []) ∨ ∃ B off, a = some ⟨B, off, none⟩ ∧ H.get B = some ⟨insC L, 48, true⟩ ∧ B < H.n ∧ (insC L = [] ∨ off = 0)) : InsA H (.slice a L.length cap) L := by
  rcases h with ⟨rfl, h0, _⟩ | ⟨B, off, rfl, g, hB, ho⟩
  · obtain rfl := List.length_eq_zero_iff.1 h0
    exact ⟨.inl ⟨cap, rfl, rfl⟩⟩
  · refine ⟨.inr ⟨B, off, cap, _, _, _, rfl, g, hB, fun k hk j hj => ?_⟩⟩
    rcases ho with ho | rfl
    · have := insC_len L
      rw [ho] at this
      simp at this; omega
    · rw [← insC_get hk hj]; congr 1; omega
theorem byts_row {H : Heap} {a : Option Addr} {l : List Int} {cap : Nat} (hb : ∀ x ∈ l, 0 ≤ x ∧ x < 256) (h : (a = none ∧ l.length = 0 ∧ l.map (Value.int .u8) = []) ∨ ∃ B off, a = some ⟨B, off, none⟩ ∧ H.get B = some ⟨l.map (Value.int .u8), 5, true⟩ ∧ B < H.n ∧ (l.map (Value.int .u8) = [] ∨ off = 0)) : Byts H (.slice a l.length cap) l := by
  rcases h with ⟨rfl, h0, _⟩ | ⟨B, off, rfl, g, hB, ho⟩
  · obtain rfl := List.length_eq_zero_iff.1 h0
    exact ⟨.inl ⟨cap, rfl, rfl⟩⟩
  · refine ⟨.inr ⟨B, off, cap, _, _, _, rfl, g, hB, fun k hk => ?_⟩⟩
    rcases ho with ho | rfl
    · simp at ho; subst ho; simp at hk
    · exact ⟨by rw [show 0 + k * 1 = k by omega, List.getElem?_map, List.getElem?_eq_getElem hk]; rfl, hb _ (List.getElem_mem hk)⟩
end Hm
end Go.Proofs.Ytjhijpfbokklcaa
