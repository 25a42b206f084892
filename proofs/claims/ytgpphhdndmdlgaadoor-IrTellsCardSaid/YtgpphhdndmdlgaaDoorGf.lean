/- strconv.FormatUint at base 10, of any number that a uint64 holds, where the table of powers of ten lies as the text lays it. -/
import Derived.Test.YtgpphhdndmdlgaaDoorShelf
import Derived.Test.YtgpphhdndmdlgaaDoorRows
import Derived.Test.YtgpphhdndmdlgaaDoorEve
import Derived.Lib.Walk
import Derived.Lib.ItoaMem
import Derived.WalkKit
import Derived.BigCall
import Derived.BigGuard
namespace Go.Proofs.YtgpphhdndmdlgaaDoor
open Go Go.Shelf Go.RowKit Go.Sort Go.Lib
set_option linter.unusedVariables false
set_option linter.unusedSimpArgs false
theorem holds_zero0 (w : World) (T : TypeId) (nd : Nat) (hs : nd ≤ 24) : Holds (fun (b : UInt8) => Value.int .u8 (b.toNat : Int)) (w.alloc (.cells zeros24 T)) w.heap.size 0 (Array.replicate nd (0 : UInt8)) := fun j hj => by
 have hj' : j < nd := by simpa using hj
 refine ⟨?_, World.frozen?_alloc_new _ _ _ _⟩
 rw [World.cell?_alloc_new, zeros24_at _ (by omega), getElem!_pos _ j hj]
 simp
theorem fin_pos0 (w : World) (o : Obj) (dk : Array UInt8) (k : Nat) : ∃ os, (putRow (fun (b : UInt8) => Value.int .u8 (b.toNat : Int)) (w.alloc o) w.heap.size 0 dk).drewN k = grow (w.drewN k) os := by
 rw [alloc_eq_grow]
 obtain ⟨os', _, e⟩ := putRow_grow_new (fun (b : UInt8) => Value.int .u8 (b.toNat : Int)) w #[o] w.heap.size 0 dk (Nat.le_refl _)
 exact ⟨os', by rw [e]; rfl⟩
set_option maxHeartbeats 6400000 in
set_option maxRecDepth 100000 in
theorem fmt_big (u : Nat) (hu0 : 100 ≤ u) (hu64 : u < 18446744073709551616) (w : World) (htab : Lib.TabIs Tryd.prog w "internal/strconv.uint64pow10" .u64 Lib.pow10Tab) :
    Calls Tryd.prog 43 #[.int .u64 u, .int .i64 10] w fun e w' => e = .returned (.string ⟨(Lib.decDigits u).toArray⟩) ∧ ∃ k os, w' = grow (w.drewN k) os := by
 have hu1 : 1 ≤ u := by omega
 have hnd20 : Lib.nDigits u ≤ 20 := by have := Lib.numDigits_eq u hu1 hu64; split at this <;> omega
 have hb3 : Lib.nDigits u ≤ 23 := by omega
 have hal : Tryd.prog.arrayLen 101 = 24 := by simp [Program.arrayLen, Tryd.underlying101]
 have hsl1 : ∀ W, (Instr.sliceAt 101 (.pointer (some ⟨w.heap.size, 0, none⟩)) none (some (.int .i64 (Lib.nDigits u : Int))) none).run Tryd.prog W = .ok (.slice (some ⟨w.heap.size, 0, none⟩) (Lib.nDigits u) 24) W := fun W => by
  rw [run_sliceAt_array_h W 101 ⟨w.heap.size, 0, none⟩ (by simp [Program.arrayLen, Program.elem, Tryd.underlying101]) .i64 (Lib.nDigits u : Int) (by omega) (by rw [hal]; omega)]
  go_simp
 have hH0 := holds_zero0 w 101 (Lib.nDigits u) (by omega)
 have hfmt := Tryd.internal_strconv_formatBase10 w.heap.size 0 24 u (Array.replicate (Lib.nDigits u) 0) (w.alloc (.cells Lib.zeros24 101)) hH0 (by rw [Array.size_replicate]; exact Lib.lt_pow_nDigits u) hu64 (by rw [Array.size_replicate]; omega)
 rw [Array.size_replicate] at hfmt
 have HH0 := Lib.hid hH0
 clear hH0 hal
 go_enter Tryd.func43, Tryd.ntmps43
 go_wp2_with (first
  | (go_at_call 62; refine (Tryd.internal_strconv_numDigits u hu1 hu64 _ (Lib.tabIs_alloc htab _)).mono ?_; rintro e w' ⟨rfl, rfl⟩))
 go_at_call 63
 refine hfmt.mono ?_
 rintro e w' ⟨rfl, k, v', dk, rfl, hF⟩
 have hcv : (convert 49 9 (.slice (some ⟨w.heap.size, 0, none⟩) (Lib.nDigits u) 24)).run Tryd.prog ((putRow (fun (b : UInt8) => Value.int .u8 (b.toNat : Int)) (w.alloc (.cells Lib.zeros24 101)) w.heap.size 0 dk).drewN k) = .ok (.string ⟨(Lib.decDigits u).toArray⟩) ((putRow (fun (b : UInt8) => Value.int .u8 (b.toNat : Int)) (w.alloc (.cells Lib.zeros24 101)) w.heap.size 0 dk).drewN k) := by
  have h := run_convert_bytes_back (P := Tryd.prog) ((putRow (fun (b : UInt8) => Value.int .u8 (b.toNat : Int)) (w.alloc (.cells Lib.zeros24 101)) w.heap.size 0 dk).drewN k) 49 9 5 ⟨w.heap.size, 0, none⟩ 24 (Lib.decDigits u) Tryd.underlying49 Tryd.underlying5 Tryd.underlying9 (fun j hj => by
   rw [Lib.row_is_numeral hF j hj, Lib.add_plain, World.cell?_drewN]
   exact cell?_putRow (fun (b : UInt8) => Value.int .u8 (b.toNat : Int)) _ w.heap.size 0 _ dk HH0.out (by rw [hF.size, Array.size_replicate]) j (by rw [hF.size]; rw [Lib.decDigits_length] at hj; exact hj))
  rw [Lib.decDigits_length] at h
  exact h
 go_wp2
 go_ret
 obtain ⟨os, eo⟩ := fin_pos0 w (.cells Lib.zeros24 101) dk k
 exact ⟨rfl, k, os, eo⟩
set_option maxRecDepth 100000 in
theorem fmt_small (i : Nat) (hi : i < 100) (w : World) :
    Calls Tryd.prog 43 #[.int .u64 i, .int .i64 10] w fun e w' => e = .returned (.string ⟨(Lib.decDigits i).toArray⟩) ∧ w' = w := by
 go_enter Tryd.func43, Tryd.ntmps43
 go_wp2_with (go_at_call 61; refine (Tryd.internal_strconv_small i hi _).mono ?_; rintro e w' ⟨rfl, rfl⟩)
 go_ret
 exact ⟨rfl, rfl⟩
theorem quiet_grow (w : World) (k : Nat) (os : Array Obj) : Ev.Quiet w (grow (w.drewN k) os) := ⟨rfl, rfl, rfl, by simp [grow], fun c hc => by
 show ((w.drewN k).heap ++ os)[c]? = _
 rw [Array.getElem?_append_left (by exact hc)]; rfl⟩
set_option maxRecDepth 100000 in
theorem fmt_any (u : Nat) (hu64 : u < 18446744073709551616) (w : World) (htab : Lib.TabIs Tryd.prog w "internal/strconv.uint64pow10" .u64 Lib.pow10Tab) :
    Calls Tryd.prog 23 #[.int .u64 u, .int .i64 10] w fun e w' => e = .returned (.string ⟨(Lib.decDigits u).toArray⟩) ∧ Ev.Quiet w w' := by
 by_cases h : u < 100
 ·go_enter Tryd.func23, Tryd.ntmps23
  go_wp2_with (go_at_call 43; refine (fmt_small u h _).mono ?_; rintro e w' ⟨rfl, rfl⟩)
  go_ret
  exact ⟨rfl, Ev.Quiet.refl _⟩
 ·go_enter Tryd.func23, Tryd.ntmps23
  go_wp2_with (go_at_call 43; refine (fmt_big u (by omega) hu64 _ htab).mono ?_; rintro e w' ⟨rfl, k, os, rfl⟩)
  go_ret
  exact ⟨rfl, quiet_grow _ _ _⟩
end Go.Proofs.YtgpphhdndmdlgaaDoor
