/- Chapter 19: a block as text: ir.Text. -/
import Derived.Test.YtgpphhdndmdlgaaDoorTx
namespace Go.Proofs.YtgpphhdndmdlgaaDoor
open Go Go.RowKit Go.Sort Go.Lib
set_option linter.unusedVariables false
set_option linter.unusedSimpArgs false
set_option maxRecDepth 100000
namespace Ls
set_option maxHeartbeats 8000000 in
theorem Text_walk (w : World) (htab : ∀ w', Below w.heap.size w w' → Lib.TabIs Tryd.prog w' "internal/strconv.uint64pow10" .u64 Lib.pow10Tab) (c : List I5) (b o cap : Nat) (x1 x2 x3 x4 x5 x6 x7 x8 x9 x10 x11 x12 x13 : Value) (hb : b < w.heap.size) (hc : ∀ x ∈ c, ok5 x) (hn : c.length ≤ 100) (hr : Rows5 w b o c) :
    Calls Tryd.prog 7 #[.agg #[.slice (some ⟨b, o, none⟩) c.length cap, x1, x2, x3, x4, x5, x6, x7, x8, x9, x10, x11, x12, x13]] w fun e w' => e = .returned (.string ⟨⟨lines c⟩⟩) ∧ Below w.heap.size w w' := by
 have Ht := Lib.hid htab
 have Hr := Lib.hid hr
 have Hc := Lib.hid hc
 clear hr hc htab
 go_enter Tryd.func7, Tryd.ntmps7
 go_wp2_with fail
 have hstart : Lib.IsBuilder 51 5 w.heap.size (w.heap.size + 1) (Lib.byteCells (lines (c.take 0))) ((w.alloc (.cells #[.slice (some ⟨b, o, none⟩) c.length cap, x1, x2, x3, x4, x5, x6, x7, x8, x9, x10, x11, x12, x13] 32)).alloc (.cells #[.pointer none, .slice none 0 0] 51)) := by
  have := Lib.fresh_isBuilder 51 5 (w.alloc (.cells #[.slice (some ⟨b, o, none⟩) c.length cap, x1, x2, x3, x4, x5, x6, x7, x8, x9, x10, x11, x12, x13] 32))
  have e : (w.alloc (.cells #[.slice (some ⟨b, o, none⟩) c.length cap, x1, x2, x3, x4, x5, x6, x7, x8, x9, x10, x11, x12, x13] 32)).heap.size = w.heap.size + 1 := alloc_size _ _
  rw [e] at this
  have le : ∀ {p bs W}, Lib.BuilderAt 51 5 (w.heap.size + 1) (w.heap.size + 1) p bs W → Lib.BuilderAt 51 5 w.heap.size (w.heap.size + 1) p bs W := fun h => by
   obtain ⟨_, v, h2, h3, h4⟩ := h
   refine ⟨by omega, v, h2, ?_, h4⟩
   refine ⟨h3.1, h3.2.imp id ?_⟩
   rintro ⟨g, cap, cur, hv, hg, r⟩
   exact ⟨g, cap, cur, hv, by omega, r⟩
  exact this.imp le le
 have Hs := Lib.hid hstart
 clear hstart
 go_loopw [11] (fun i wr => ∃ k : Nat, k ≤ c.length ∧ i = .int .i64 k ∧ Hid (Lib.IsBuilder 51 5 w.heap.size (w.heap.size + 1) (Lib.byteCells (lines (c.take k))) wr) ∧ Hid (Below w.heap.size w wr)) (fun i _ => c.length - (Lib.intOf i).toNat)
 case atStart => exact ⟨0, Nat.zero_le _, rfl, Hs, Lib.hid (((Below.refl w.heap.size w).alloc (Nat.le_refl _) _).alloc (by rw [alloc_size]; omega) _)⟩
 case round =>
  obtain ⟨k, hk, rfl, HB, HW⟩ := hrel
  have hsz := HW.out.size
  have hbl : w.heap.size + 1 < wr.heap.size := HB.out.elim Lib.BuilderAt.lt Lib.BuilderAt.lt
  by_cases hkn : k < c.length
  ·obtain ⟨x, hx5⟩ : ∃ x, c[k]? = some x := ⟨c[k], List.getElem?_eq_getElem hkn⟩
   have cell : ∀ j, wr.cell? ⟨b, j, none⟩ = w.cell? ⟨b, j, none⟩ := fun j => HW.out.cell (p := ⟨b, j, none⟩) hb
   obtain ⟨e0, e1, e2, e3, e4⟩ := Hr.out k x hx5
   rw [← cell] at e0 e1 e2 e3 e4
   have Hok := Lib.hid (Hc.out x (List.mem_of_getElem? hx5))
   have Hx5 := Lib.hid hx5
   have hlk : (lines (c.take k)).length ≤ 11000 := by
    have := lines_len (c := c.take k) (fun y hy => Hc.out y (List.mem_of_mem_take hy))
    rw [List.length_take] at this; omega
   have Hlk := Lib.hid hlk
   have HL2 : Hid (lines (c.take (k + 1)) = lines (c.take k) ++ line x) := Lib.hid (lines_take hx5)
   generalize hL : lines (c.take k) = L at HB Hlk HL2
   clear cell hx5 hlk hL
   go_wp2_with fail
   have z1 := alloc_size wr (.cells #[.int .i64 x.1, .int .i64 x.2.1, .int .i64 x.2.2.1, .int .i64 x.2.2.2.1, .int .u32 x.2.2.2.2] 41)
   have hq := quiet_alloc wr (.cells #[.int .i64 x.1, .int .i64 x.2.1, .int .i64 x.2.2.1, .int .i64 x.2.2.2.1, .int .u32 x.2.2.2.2] 41)
   have h5 : (wr.alloc (.cells #[.int .i64 x.1, .int .i64 x.2.1, .int .i64 x.2.2.1, .int .i64 x.2.2.2.1, .int .u32 x.2.2.2.2] 41)).heap[wr.heap.size]? = some (.cells #[.int .i64 x.1, .int .i64 x.2.1, .int .i64 x.2.2.1, .int .i64 x.2.2.2.1, .int .u32 x.2.2.2.2] 41 (0, 0)) := heap_alloc_new wr _
   generalize wr.alloc (.cells #[.int .i64 x.1, .int .i64 x.2.1, .int .i64 x.2.2.1, .int .i64 x.2.2.2.1, .int .u32 x.2.2.2.2] 41) = wa at z1 hq h5
   have z2 := alloc_size wa (.cells #[.int .i64 x.2.1, .int .i64 x.1, .int .i64 x.2.2.1, .int .i64 x.2.2.2.1] 3)
   have hq2 := quiet_trans hq (quiet_alloc wa (.cells #[.int .i64 x.2.1, .int .i64 x.1, .int .i64 x.2.2.1, .int .i64 x.2.2.2.1] 3))
   have h23 : (wa.alloc (.cells #[.int .i64 x.2.1, .int .i64 x.1, .int .i64 x.2.2.1, .int .i64 x.2.2.2.1] 3)).heap[wr.heap.size + 1]? = some (.cells #[.int .i64 x.2.1, .int .i64 x.1, .int .i64 x.2.2.1, .int .i64 x.2.2.2.1] 3 (0, 0)) := by
    rw [← z1]; exact heap_alloc_new wa _
   have h5b : (wa.alloc (.cells #[.int .i64 x.2.1, .int .i64 x.1, .int .i64 x.2.2.1, .int .i64 x.2.2.2.1] 3)).heap[wr.heap.size]? = some (.cells #[.int .i64 x.1, .int .i64 x.2.1, .int .i64 x.2.2.1, .int .i64 x.2.2.2.1, .int .u32 x.2.2.2.2] 41 (0, 0)) := by
    rw [← heap_old wa _ (by omega)]; exact h5
   generalize wa.alloc (.cells #[.int .i64 x.2.1, .int .i64 x.1, .int .i64 x.2.2.1, .int .i64 x.2.2.2.1] 3) = wb at z2 hq2 h23 h5b
   have HBb := Lib.hid (isB_quiet HB.out hq2)
   have HWb := Lib.hid (below_quiet HW.out hq2 hsz)
   have H23 := Lib.hid h23
   have H5 := Lib.hid h5b
   have hrb := hq2.size
   clear hq hq2 h5 h23 h5b z1 z2 HB HW e0 e1 e2 e3 e4
   generalize wr.heap.size = N at hsz hbl hrb H23 H5 ⊢
   go_loopw [25] (fun j w2 => ∃ q : Nat, q ≤ 4 ∧ j = .int .i64 q ∧ Hid (Lib.IsBuilder 51 5 w.heap.size (w.heap.size + 1) (Lib.byteCells (L ++ pre x q)) w2) ∧ Hid (Below w.heap.size w w2) ∧ Hid (w2.heap[N + 1]? = some (.cells #[.int .i64 x.2.1, .int .i64 x.1, .int .i64 x.2.2.1, .int .i64 x.2.2.2.1] 3 (0, 0))) ∧ Hid (w2.heap[N]? = some (.cells #[.int .i64 x.1, .int .i64 x.2.1, .int .i64 x.2.2.1, .int .i64 x.2.2.2.1, .int .u32 x.2.2.2.2] 41 (0, 0)))) (fun j _ => 4 - (Lib.intOf j).toNat)
   case atStart => exact ⟨0, by omega, rfl, by simpa [pre] using HBb, HWb, H23, H5⟩
   case round =>
    obtain ⟨q, hq4, rfl, HB2, HW2, G23, G5⟩ := hrel
    have hsz2 := HW2.out.size
    by_cases hq : q < 4
    ·have hc0 : wr.cell? ⟨N + 1, q, none⟩ = some (.int .i64 (fld x q)) := by
       rw [Lib.cell_of_heap G23.out]
       rcases (by omega : q = 0 ∨ q = 1 ∨ q = 2 ∨ q = 3) with rfl | rfl | rfl | rfl <;> rfl
     have hF := fld_ok Hok.out q
     have hD := decZ_len (fld x q) (by omega) (by omega)
     have hP := pre_len Hok.out q
     have hlk := Hlk.out
     have g0 : ¬ 9223372036854775807 < (decZ (fld x q)).length + 1 := by omega
     go_wp2_with fail
     refine (Tryd.strconv_Itoa (fld x q) (by omega) (by omega) wr (Ht.out _ HW2.out)).mono ?_
     rintro e w3 ⟨rfl, kk, os, rfl⟩
     have hq3 := quiet_grow wr kk os
     rw [itoa_decZ]
     generalize grow (wr.drewN kk) os = w3 at hq3 ⊢
     have HB3 := Lib.hid (isB_quiet HB2.out hq3)
     have HW3 := Lib.hid (below_quiet HW2.out hq3 hsz2)
     have hsz3 := HW3.out.size
     have k23 := Lib.hid ((hq3.block _ (Array.getElem?_eq_some_iff.1 G23.out).1).trans G23.out)
     have k5 := Lib.hid ((hq3.block _ (Array.getElem?_eq_some_iff.1 G5.out).1).trans G5.out)
     clear hq3 hc0
     go_wp2_with fail
     refine (Tryd.WriteString w.heap.size (w.heap.size + 1) _ _ w3 HB3.out ?_ hsz3).mono ?_
     ·rw [Lib.byteCells_length, List.length_append, ByteArray.size_append]
      show _ + (Array.size _ + 1) ≤ _
      rw [List.size_toArray]
      omega
     rintro e w4 ⟨rfl, h4, hb4, hfr⟩
     have H4 : Hid (Lib.IsBuilder 51 5 w.heap.size (w.heap.size + 1) (Lib.byteCells (L ++ pre x (q + 1))) w4) := Lib.hid (Or.inr (by
      have e : Lib.byteCells (L ++ pre x q) ++ Lib.strCells ({ data := (decZ (fld x q)).toArray } ++ { data := #[32] }) = Lib.byteCells (L ++ pre x (q + 1)) := by
       rw [Lib.strCells_eq, ← Lib.byteCells_append]; congr 1; simp [pre]
      rw [← e]; exact h4))
     have HW4 := Lib.hid (HW3.out.trans hb4)
     have m23 := Lib.hid (hfr _ _ _ _ (by omega) k23.out (by decide))
     have m5 := Lib.hid (hfr _ _ _ _ (by omega) k5.out (by decide))
     clear h4 hb4 hfr
     go_wp2
     exact ⟨⟨q + 1, by omega, by go_num, H4, HW4, m23, m5⟩, by simp [Lib.intOf]; omega⟩
    ·obtain rfl : q = 4 := by omega
     obtain ⟨_, _, _, _, i0, i1⟩ := Hok.out
     obtain ⟨u, hu⟩ : ∃ u : Nat, x.2.2.2.2 = (u : Int) := ⟨x.2.2.2.2.toNat, by omega⟩
     have hc4 : wr.cell? ⟨N, 4, none⟩ = some (.int .u32 u) := by
      rw [Lib.cell_of_heap G5.out, ← hu]; rfl
     have hD := len_dig u (by omega)
     have hP := pre_len Hok.out 4
     have hlk := Hlk.out
     have g0 : ¬ 9223372036854775807 < (Lib.decDigits u).length + 1 := by omega
     have hw : IntKind.u64.wrap (u : Int) = (u : Int) := by rw [IntKind.wrap_u64]; omega
     have hz : decZ x.2.2.2.2 = Lib.decDigits u := by rw [hu]; unfold decZ; rw [if_neg (by omega)]; simp
     have Hz := Lib.hid hz
     have Hu := Lib.hid hu
     clear hz
     go_wp2_with fail
     refine (fmt_any u (by omega) wr (Ht.out _ HW2.out)).mono ?_
     rintro e w3 ⟨rfl, hq3⟩
     have HB3 := Lib.hid (isB_quiet HB2.out hq3)
     have HW3 := Lib.hid (below_quiet HW2.out hq3 hsz2)
     have hsz3 := HW3.out.size
     clear hq3 hc4
     go_wp2_with fail
     refine (Tryd.WriteString w.heap.size (w.heap.size + 1) _ _ w3 HB3.out ?_ hsz3).mono ?_
     ·rw [Lib.byteCells_length, List.length_append, ByteArray.size_append]
      show _ + (Array.size _ + 1) ≤ _
      rw [List.size_toArray]
      omega
     rintro e w4 ⟨rfl, h4, hb4, hfr⟩
     have H4 : Hid (Lib.IsBuilder 51 5 w.heap.size (w.heap.size + 1) (Lib.byteCells (lines (c.take (k + 1)))) w4) := Lib.hid (Or.inr (by
      have e : Lib.byteCells (L ++ pre x 4) ++ Lib.strCells ({ data := (Lib.decDigits u).toArray } ++ { data := #[10] }) = Lib.byteCells (lines (c.take (k + 1))) := by
       rw [Lib.strCells_eq, ← Lib.byteCells_append, HL2.out, line_pre, Hz.out]; congr 1; simp
      rw [← e]; exact h4))
     have HW4 := Lib.hid (HW3.out.trans hb4)
     clear h4 hb4 hfr
     go_wp2
     exact ⟨⟨k + 1, by omega, by go_num, H4, HW4⟩, by simp [Lib.intOf]; omega⟩
  ·obtain rfl : k = c.length := by omega
   have HB2 := HB.out
   rw [List.take_of_length_le (Nat.le_refl _)] at HB2
   have HBB := Lib.hid HB2
   clear HB2
   go_wp2_with fail
   refine (Tryd.Builder_String_any w.heap.size (w.heap.size + 1) _ wr HBB.out hsz).mono ?_
   rintro e w5 ⟨rfl, hb5⟩
   have Hb5 := Lib.hid (HW.out.trans hb5)
   clear hb5
   go_wp2
   go_ret
   exact ⟨rfl, Hb5.out⟩
end Ls
end Go.Proofs.YtgpphhdndmdlgaaDoor
