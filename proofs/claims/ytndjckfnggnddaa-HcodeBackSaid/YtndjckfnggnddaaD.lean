/- The walk of hcode.Decode. -/
import Derived.Test.YtndjckfnggnddaaC
import Derived.Deep.RegionHeld3
namespace Go.Proofs.Ytndjckfnggnddaa
open Go.RowKit
set_option linter.unusedVariables false
set_option linter.unusedSimpArgs false
def imF (a b c d : Int) : Int := bits .or .u32 (bits .or .u32 (bits .or .u32 a (b * 256)) (c * 65536)) (d * 16777216)
/-- Eight bytes in a row. -/
def Eight (w : World) (b off : Nat) (x0 x1 x2 x3 x4 x5 x6 x7 : Int) : Prop :=
  w.cell? ⟨b, off, none⟩ = some (.int .u8 x0) ∧ w.cell? ⟨b, off + 1, none⟩ = some (.int .u8 x1) ∧ w.cell? ⟨b, off + 2, none⟩ = some (.int .u8 x2) ∧ w.cell? ⟨b, off + 3, none⟩ = some (.int .u8 x3) ∧
  w.cell? ⟨b, off + 4, none⟩ = some (.int .u8 x4) ∧ w.cell? ⟨b, off + 5, none⟩ = some (.int .u8 x5) ∧ w.cell? ⟨b, off + 6, none⟩ = some (.int .u8 x6) ∧ w.cell? ⟨b, off + 7, none⟩ = some (.int .u8 x7)
def isByte (x : Int) : Prop := 0 ≤ x ∧ x < 256
theorem u32_byte {x : Int} (h : isByte x) : IntKind.u32.wrap x = x := by obtain ⟨h0, h1⟩ := h; rw [IntKind.wrap_u32]; omega
theorem u32_byte8 {x : Int} (h : isByte x) : IntKind.u32.wrap (x * 256) = x * 256 := by obtain ⟨h0, h1⟩ := h; rw [IntKind.wrap_u32]; omega
theorem u32_byte16 {x : Int} (h : isByte x) : IntKind.u32.wrap (x * 65536) = x * 65536 := by obtain ⟨h0, h1⟩ := h; rw [IntKind.wrap_u32]; omega
theorem u32_byte24 {x : Int} (h : isByte x) : IntKind.u32.wrap (x * 16777216) = x * 16777216 := by obtain ⟨h0, h1⟩ := h; rw [IntKind.wrap_u32]; omega
theorem first_of_two {w w1 : World} {c : Array Value} {t : TypeId} {o : Obj} (hb : Below ((w.alloc (.cells c t)).alloc o).drew.heap.size ((w.alloc (.cells c t)).alloc o).drew w1) (i : Nat) :
    w1.cell? ⟨w.heap.size, i, none⟩ = c[i]? := by
  have h : w.heap.size < ((w.alloc (.cells c t)).alloc o).drew.heap.size := by simp; omega
  exact (hb.cell (p := ⟨w.heap.size, i, none⟩) h).trans (World.cell?_alloc2_first c t o i)
set_option maxHeartbeats 1000000 in
theorem decode_eight (b off cap : Nat) (x0 x1 x2 x3 x4 x5 x6 x7 : Int) (w : World)
    (h0 : isByte x0) (h1 : isByte x1) (h2 : isByte x2) (h3 : isByte x3) (h4 : isByte x4) (h5 : isByte x5) (h6 : isByte x6) (h7 : isByte x7)
    (hb : b < w.heap.size) (hc : Eight w b off x0 x1 x2 x3 x4 x5 x6 x7) :
    Calls Try.prog 13 #[.slice (some ⟨b, off, none⟩) 8 cap] w fun e w' => Below w.heap.size w w' ∧
      ((rightB x0 x1 x2 x3 (imF x4 x5 x6 x7) = true ∧ e = .returned (.tuple #[.agg #[.int .i64 x0, .int .i64 x1, .int .i64 x2, .int .i64 x3, .int .u32 (imF x4 x5 x6 x7)], .int .i64 0])) ∨
       (rightB x0 x1 x2 x3 (imF x4 x5 x6 x7) = false ∧ e = .returned (.tuple #[.agg #[.int .i64 0, .int .i64 0, .int .i64 0, .int .i64 0, .int .u32 0], .int .i64 12]))) := by
  obtain ⟨c0, c1, c2, c3, c4, c5, c6, c7⟩ := hc
  have v4 := u32_byte h4
  have v5 := u32_byte h5
  have v6 := u32_byte h6
  have v7 := u32_byte h7
  have v8 := u32_byte8 h5
  have v9 := u32_byte16 h6
  have v10 := u32_byte24 h7
  obtain ⟨r0, r0'⟩ := h0
  obtain ⟨r1, r1'⟩ := h1
  obtain ⟨r2, r2'⟩ := h2
  obtain ⟨r3, r3'⟩ := h3
  go_enter Try.func13, Try.ntmps13
  go_wp2
  go_region_held3 (fun w' => w'.cell? ⟨b, off, none⟩ = some (.int .u8 x0) ∧ w'.cell? ⟨b, off + 1, none⟩ = some (.int .u8 x1) ∧ w'.cell? ⟨b, off + 2, none⟩ = some (.int .u8 x2) ∧ w'.cell? ⟨b, off + 3, none⟩ = some (.int .u8 x3) ∧ w'.cell? ⟨b, off + 4, none⟩ = some (.int .u8 x4) ∧ w'.cell? ⟨b, off + 5, none⟩ = some (.int .u8 x5) ∧ w'.cell? ⟨b, off + 6, none⟩ = some (.int .u8 x6) ∧ w'.cell? ⟨b, off + 7, none⟩ = some (.int .u8 x7))
    (first | go_keep)
    (first | fail)
  rename_i hHeld
  clear hHeld
  have hi : bits .or .u32 (bits .or .u32 (bits .or .u32 x4 (x5 * 256)) (x6 * 65536)) (x7 * 16777216) = imF x4 x5 x6 x7 := rfl
  clear c0 c1 c2 c3 c4 c5 c6 c7 v4 v5 v6 v7 v8 v9 v10
  generalize hi'' : imF x4 x5 x6 x7 = im at hi
  have hi' := Lib.hid hi''
  clear hi''
  rcases Bool.eq_false_or_eq_true (rightB x0 x1 x2 x3 im) with hr | hr
  all_goals
    have HR := Lib.hid hr
    go_wp2_with (go_at_call 12; refine (right_any _ _ _ _ _ _).mono ?_; rintro e w1 ⟨rfl, hb⟩; obtain ⟨hc, hf⟩ := bcell hb; have hz : w.heap.size + 1 < w1.heap.size := by have := hb.size; simp at this; omega)
  all_goals
    have s0 : w1.cell? ⟨w.heap.size, 0, none⟩ = some (.int .i64 0) := first_of_two hb 0
    have s1 : w1.cell? ⟨w.heap.size, 1, none⟩ = some (.int .i64 0) := first_of_two hb 1
    have s2 : w1.cell? ⟨w.heap.size, 2, none⟩ = some (.int .i64 0) := first_of_two hb 2
    have s3 : w1.cell? ⟨w.heap.size, 3, none⟩ = some (.int .i64 0) := first_of_two hb 3
    have s4 : w1.cell? ⟨w.heap.size, 4, none⟩ = some (.int .u32 0) := first_of_two hb 4
    have hbb : Below w.heap.size w w1 := ((below_alloc (below_alloc (Below.refl _ w) _) _).drew).trans (hb.mono (by simp; omega))
  · refine bodyPost_ret (v := .tuple #[.agg #[.int .i64 x0, .int .i64 x1, .int .i64 x2, .int .i64 x3, .int .u32 im], .int .i64 0]) (by simp [results, Try.results13, go_sem, s0, s1, s2, s3, s4]) rfl ⟨?_, .inl ⟨by rw [hi'.out]; exact HR.out, by rw [hi'.out]⟩⟩
    repeat (first | exact hbb | refine Below.setCell ?_ (by simp) _)
  · refine bodyPost_ret (v := .tuple #[.agg #[.int .i64 0, .int .i64 0, .int .i64 0, .int .i64 0, .int .u32 0], .int .i64 12]) (by simp [results, Try.results13, go_sem, s0, s1, s2, s3, s4]) rfl ⟨?_, .inr ⟨by rw [hi'.out]; exact HR.out, rfl⟩⟩
    repeat (first | exact hbb | refine Below.setCell ?_ (by simp) _)
end Go.Proofs.Ytndjckfnggnddaa
