/- The walk of hcode.Right. No condition. -/
import Derived.Test.YtndjckfnggnddaaA
namespace Go.Proofs.Ytndjckfnggnddaa
open Go.RowKit
set_option linter.unusedVariables false
set_option linter.unusedSimpArgs false
/-- Whether an instruction may be. -/
def rightB (op rd ra rb im : Int) : Bool :=
  okB op && (decide (sel (rdB op) rd = rd ∧ sel (raB op) ra = ra ∧ sel (rbB op) rb = rb ∧ sel (imB op) im = im) && (regB rd && (regB ra && regB rb)))
theorem ret_b {u u' : Bool} (h : u = u') : Ending.returned (.bool u) = .returned (.bool u') := by rw [h]
theorem below_step {w w1 : World} {o : Obj} (hb : Below (w.alloc o).heap.size (w.alloc o) w1) : Below w.heap.size w w1 :=
  (below_alloc (Below.refl _ w) o).trans (hb.mono (by simp))
theorem right_of {op rd ra rb im : Int} (h : okB op = true) (h1 : sel (rdB op) rd = rd) (h2 : sel (raB op) ra = ra) (h3 : sel (rbB op) rb = rb) (h4 : sel (imB op) im = im) :
    rightB op rd ra rb im = (regB rd && (regB ra && regB rb)) := by
  unfold rightB; simp [h, h1, h2, h3, h4]
theorem right_no {op rd ra rb im : Int} (h : ¬ (okB op = true ∧ sel (rdB op) rd = rd ∧ sel (raB op) ra = ra ∧ sel (rbB op) rb = rb ∧ sel (imB op) im = im)) :
    rightB op rd ra rb im = false := by
  unfold rightB
  cases hk : okB op
  · rfl
  · have : decide (sel (rdB op) rd = rd ∧ sel (raB op) ra = ra ∧ sel (rbB op) rb = rb ∧ sel (imB op) im = im) = false := decide_eq_false fun hq => h ⟨hk, hq⟩
    rw [this]; rfl
set_option maxHeartbeats 1000000 in
theorem right_any (op rd ra rb im : Int) (w : World) :
    Calls Try.prog 12 #[.agg #[.int .i64 op, .int .i64 rd, .int .i64 ra, .int .i64 rb, .int .u32 im]] w fun e w' => e = .returned (.bool (rightB op rd ra rb im)) ∧ Below w.heap.size w w' := by
  go_enter Try.func12, Try.ntmps12
  go_wp2_with (first | (go_at_call 15; refine (asked_any _ _ _ _ _ _).mono ?_; rintro e w1 ⟨rfl, hb⟩; obtain ⟨hc, hf⟩ := bcell hb; have hz : w.heap.size < w1.heap.size := by have := hb.size; simp at this; omega) | (go_at_call 16; refine (reg_any _ _).mono ?_; rintro e w2 ⟨rfl, rfl⟩))
  all_goals
    go_ret
    refine ⟨ret_b ?_, below_alloc (below_step hb) _⟩
    clear hc hf hb
    first
    | (refine Eq.symm ((right_of (by assumption) (by assumption) (by assumption) (by assumption) (by assumption)).trans ?_); simp_all; done)
    | (refine Eq.symm (right_no ?_); simp_all; done)
end Go.Proofs.Ytndjckfnggnddaa
