/- Ported walks: asked, reg, Right, Within. -/
import Derived.Test.YtjhijpfbokklcaaRows
import Derived.WalkKit
import Derived.Lib.Hide
import Derived.RegionTactic
import Derived.ChangeAlike
import Derived.BigRegion
namespace Go.Proofs.Ytjhijpfbokklcaa
open Go.RowKit
set_option linter.unusedVariables false
set_option linter.unusedSimpArgs false

/-! ### an instruction of the host, by its numbers -/
def rdB (op : Int) : Bool := decide (1 ≤ op ∧ op ≤ 14)
def raB (op : Int) : Bool := decide (2 ≤ op ∧ op ≤ 17)
def rbB (op : Int) : Bool := decide ((3 ≤ op ∧ op ≤ 13) ∨ op = 15)
def imB (op : Int) : Bool := decide (op = 1 ∨ (14 ≤ op ∧ op ≤ 19))
def okB (op : Int) : Bool := decide (0 ≤ op ∧ op ≤ 19)
def sel (b : Bool) (x : Int) : Int := if b = true then x else 0

theorem bcell {W w1 : World} (hb : Below W.heap.size W w1) : (∀ b o, b < W.heap.size → w1.cell? ⟨b, o, none⟩ = W.cell? ⟨b, o, none⟩) ∧ (∀ b o, b < W.heap.size → w1.frozen? ⟨b, o, none⟩ = W.frozen? ⟨b, o, none⟩) :=
  ⟨fun b o h => hb.cell (p := ⟨b, o, none⟩) h, fun b o h => hb.frozen (p := ⟨b, o, none⟩) h⟩
theorem below_alloc {a w : World} (h : Below a.heap.size a w) (o : Obj) : Below a.heap.size a (w.alloc o) := h.alloc h.size o
theorem askpost {op rd ra rb im a b c d : Int} {k : Bool} {w w' : World} (h1 : sel (rdB op) rd = a) (h2 : sel (raB op) ra = b) (h3 : sel (rbB op) rb = c) (h4 : sel (imB op) im = d) (h5 : okB op = k) (hb : Below w.heap.size w w') :
    Ending.returned (.tuple #[.agg #[.int .i64 op, .int .i64 a, .int .i64 b, .int .i64 c, .int .u32 d], .bool k]) = .returned (.tuple #[.agg #[.int .i64 op, .int .i64 (sel (rdB op) rd), .int .i64 (sel (raB op) ra), .int .i64 (sel (rbB op) rb), .int .u32 (sel (imB op) im)], .bool (okB op)]) ∧ Below w.heap.size w w' := by
  subst h1 h2 h3 h4 h5; exact ⟨rfl, hb⟩

set_option maxHeartbeats 1000000 in
theorem asked_small (op rd ra rb im : Int) (w : World) (ho : op = 0 ∨ op = 1 ∨ op = 2 ∨ op = 14 ∨ op = 15 ∨ op = 16 ∨ op = 17 ∨ op = 18 ∨ op = 19) :
    Calls Try.prog 38 #[.agg #[.int .i64 op, .int .i64 rd, .int .i64 ra, .int .i64 rb, .int .u32 im]] w fun e w' =>
      e = .returned (.tuple #[.agg #[.int .i64 op, .int .i64 (sel (rdB op) rd), .int .i64 (sel (raB op) ra), .int .i64 (sel (rbB op) rb), .int .u32 (sel (imB op) im)], .bool (okB op)]) ∧ Below w.heap.size w w' := by
  rcases ho with rfl | rfl | rfl | rfl | rfl | rfl | rfl | rfl | rfl
  all_goals
    go_enter Try.func38, Try.ntmps38
    go_wp2
    (try (go_region; go_wp2))
    refine bodyPost_ret (v := .tuple #[.agg #[.int .i64 _, .int .i64 _, .int .i64 _, .int .i64 _, .int .u32 _], .bool _]) (by simp [results, Try.results38, go_sem]; exact ⟨⟨rfl, rfl, rfl, rfl⟩, rfl⟩) rfl (askpost rfl rfl rfl rfl rfl ?_)
    repeat (first | exact Below.refl _ _ | refine Below.drew ?_ | refine below_alloc ?_ _)
set_option maxHeartbeats 1000000 in
theorem asked_alu (op rd ra rb im : Int) (w : World) (h0 : 3 ≤ op) (h1 : op ≤ 13) :
    Calls Try.prog 38 #[.agg #[.int .i64 op, .int .i64 rd, .int .i64 ra, .int .i64 rb, .int .u32 im]] w fun e w' =>
      e = .returned (.tuple #[.agg #[.int .i64 op, .int .i64 (sel (rdB op) rd), .int .i64 (sel (raB op) ra), .int .i64 (sel (rbB op) rb), .int .u32 (sel (imB op) im)], .bool (okB op)]) ∧ Below w.heap.size w w' := by
  have e1 := Lib.hid (p := rdB op = true) (by unfold rdB; simp; omega)
  have e2 := Lib.hid (p := raB op = true) (by unfold raB; simp; omega)
  have e3 := Lib.hid (p := rbB op = true) (by unfold rbB; simp; omega)
  have e4 := Lib.hid (p := imB op = false) (by unfold imB; simp; omega)
  have e5 := Lib.hid (p := okB op = true) (by unfold okB; simp; omega)
  go_enter Try.func38, Try.ntmps38
  go_wp2
  go_region
  go_wp2
  refine bodyPost_ret (v := .tuple #[.agg #[.int .i64 op, .int .i64 rd, .int .i64 ra, .int .i64 rb, .int .u32 0], .bool true]) (by simp [results, Try.results38, go_sem]) rfl (askpost (a := rd) (b := ra) (c := rb) (d := 0) (by simp [sel, e1.out]) (by simp [sel, e2.out]) (by simp [sel, e3.out]) (by simp [sel, e4.out]) e5.out ?_)
  repeat (first | exact Below.refl _ _ | refine Below.drew ?_ | refine below_alloc ?_ _)
set_option maxHeartbeats 1000000 in
theorem asked_no (op rd ra rb im : Int) (w : World) (h : op < 0 ∨ 19 < op) :
    Calls Try.prog 38 #[.agg #[.int .i64 op, .int .i64 rd, .int .i64 ra, .int .i64 rb, .int .u32 im]] w fun e w' =>
      e = .returned (.tuple #[.agg #[.int .i64 op, .int .i64 (sel (rdB op) rd), .int .i64 (sel (raB op) ra), .int .i64 (sel (rbB op) rb), .int .u32 (sel (imB op) im)], .bool (okB op)]) ∧ Below w.heap.size w w' := by
  have e1 := Lib.hid (p := rdB op = false) (by unfold rdB; simp; omega)
  have e2 := Lib.hid (p := raB op = false) (by unfold raB; simp; omega)
  have e3 := Lib.hid (p := rbB op = false) (by unfold rbB; simp; omega)
  have e4 := Lib.hid (p := imB op = false) (by unfold imB; simp; omega)
  have e5 := Lib.hid (p := okB op = false) (by unfold okB; simp; omega)
  have q0 : (op == 16) = false := by simp; omega
  have q1 : (op == 17) = false := by simp; omega
  have q2 : (op == 18) = false := by simp; omega
  have q3 : (op == 19) = false := by simp; omega
  rcases h with h | h
  all_goals
    go_enter Try.func38, Try.ntmps38
    go_wp2
    refine bodyPost_ret (v := .tuple #[.agg #[.int .i64 op, .int .i64 0, .int .i64 0, .int .i64 0, .int .u32 0], .bool false]) (by simp [results, Try.results38, go_sem]) rfl (askpost (a := 0) (b := 0) (c := 0) (d := 0) (by simp [sel, e1.out]) (by simp [sel, e2.out]) (by simp [sel, e3.out]) (by simp [sel, e4.out]) e5.out ?_)
    repeat (first | exact Below.refl _ _ | refine Below.drew ?_ | refine below_alloc ?_ _)
theorem asked_any (op rd ra rb im : Int) (w : World) :
    Calls Try.prog 38 #[.agg #[.int .i64 op, .int .i64 rd, .int .i64 ra, .int .i64 rb, .int .u32 im]] w fun e w' =>
      e = .returned (.tuple #[.agg #[.int .i64 op, .int .i64 (sel (rdB op) rd), .int .i64 (sel (raB op) ra), .int .i64 (sel (rbB op) rb), .int .u32 (sel (imB op) im)], .bool (okB op)]) ∧ Below w.heap.size w w' := by
  by_cases h : op < 0 ∨ 19 < op
  · exact asked_no op rd ra rb im w h
  · by_cases h1 : 3 ≤ op ∧ op ≤ 13
    · exact asked_alu op rd ra rb im w h1.1 h1.2
    · exact asked_small op rd ra rb im w (by omega)

def regB (n : Int) : Bool := decide (0 ≤ n ∧ n < 16)
set_option maxHeartbeats 400000 in
theorem reg_any (n : Int) (w : World) : Calls Try.prog 39 #[.int .i64 n] w fun e w' => e = .returned (.bool (regB n)) ∧ w = w' := by
  have e1 : regB n = (decide (0 ≤ n) && decide (n < 16)) := by unfold regB; simp
  by_cases h : 0 ≤ n <;> by_cases h' : n < 16
  all_goals
    generalize hq : regB n = q
    rw [hq] at e1
    have H := Lib.hid e1
    clear e1
    go_enter Try.func39, Try.ntmps39
    go_wp2
    go_ret
    refine ⟨?_, rfl⟩
    rw [H.out]
    simp <;> omega

/-- Whether an instruction may be. -/
def rightB (op rd ra rb im : Int) : Bool :=
  okB op && (decide (sel (rdB op) rd = rd ∧ sel (raB op) ra = ra ∧ sel (rbB op) rb = rb ∧ sel (imB op) im = im) && (regB rd && (regB ra && regB rb)))
theorem ret_b {u u' : Bool} (h : u = u') : Ending.returned (.bool u) = .returned (.bool u') := by rw [h]
theorem below_step {w w1 : World} {o : Obj} (hb : Below (w.alloc o).heap.size (w.alloc o) w1) : Below w.heap.size w w1 :=
  (below_alloc (Below.refl _ w) o).trans (hb.mono (by simp))
theorem right_of {op rd ra rb im : Int} (h : okB op = true) (h1 : sel (rdB op) rd = rd) (h2 : sel (raB op) ra = ra) (h3 : sel (rbB op) rb = rb) (h4 : sel (imB op) im = im) :
    rightB op rd ra rb im = (regB rd && (regB ra && regB rb)) := by
  unfold rightB; simp [h, h1, h2, h3, h4]
theorem right_no {op rd ra rb im : Int} (h : ¬ (okB op = true ∧ sel (rdB op) rd = rd ∧ sel (raB op) ra = ra ∧ sel (rbB op) rb = rb ∧ sel (imB op) im = im)) :
    rightB op rd ra rb im = false := by
  unfold rightB
  cases hk : okB op
  · rfl
  · have : decide (sel (rdB op) rd = rd ∧ sel (raB op) ra = ra ∧ sel (rbB op) rb = rb ∧ sel (imB op) im = im) = false := decide_eq_false fun hq => h ⟨hk, hq⟩
    rw [this]; rfl
set_option maxHeartbeats 1000000 in
theorem right_any (op rd ra rb im : Int) (w : World) :
    Calls Try.prog 37 #[.agg #[.int .i64 op, .int .i64 rd, .int .i64 ra, .int .i64 rb, .int .u32 im]] w fun e w' => e = .returned (.bool (rightB op rd ra rb im)) ∧ Below w.heap.size w w' := by
  go_enter Try.func37, Try.ntmps37
  go_wp2_with (first | (go_at_call 38; refine (asked_any _ _ _ _ _ _).mono ?_; rintro e w1 ⟨rfl, hb⟩; obtain ⟨hc, hf⟩ := bcell hb; have hz : w.heap.size < w1.heap.size := by have := hb.size; simp at this; omega) | (go_at_call 39; refine (reg_any _ _).mono ?_; rintro e w2 ⟨rfl, rfl⟩))
  all_goals
    go_ret
    refine ⟨ret_b ?_, below_alloc (below_step hb) _⟩
    clear hc hf hb
    first
    | (refine Eq.symm ((right_of (by assumption) (by assumption) (by assumption) (by assumption) (by assumption)).trans ?_); simp_all; done)
    | (refine Eq.symm (right_no ?_); simp_all; done)
theorem ret_one {k : IntKind} {a b : Int} (h : a = b) : Ending.returned (.int k a) = .returned (.int k b) := by rw [h]
theorem tmod_emod (n m : Int) (hm : 0 < m) : n.tmod m = if 0 ≤ n then n % m else if n % m = 0 then 0 else n % m - m := by
  split
  · rename_i h; exact Int.tmod_eq_emod_of_nonneg h
  · rename_i h
    have h1 : n.tmod m = - ((-n) % m) := by
      have := Int.neg_tmod (-n) m
      rw [Int.neg_neg] at this
      rw [this, Int.tmod_eq_emod_of_nonneg (by omega)]
    have h2 : (-n) % m = if n % m = 0 then 0 else m - n % m := by
      have hd := Int.mul_ediv_add_emod n m
      have hp := Int.emod_nonneg n (by omega : m ≠ 0)
      have hq := Int.emod_lt_of_pos n hm
      split
      · rename_i h0
        have : m ∣ n := Int.dvd_of_emod_eq_zero h0
        exact Int.emod_eq_zero_of_dvd (Int.dvd_neg.2 this)
      · rename_i h0
        have e : -n = (m - n % m) + m * (-(n / m) - 1) := by
          rw [Int.mul_sub, Int.mul_neg, Int.mul_one]; omega
        rw [e, Int.add_mul_emod_self_left]
        exact Int.emod_eq_of_lt (by omega) (by omega)
    rw [h1, h2]; split <;> omega
set_option maxHeartbeats 400000 in
theorem within_any (n lo hi : Int) (w : World) (h0 : -9223372036854775808 ≤ n) (h1 : n ≤ 9223372036854775807) (h2 : 0 ≤ lo) (h3 : lo ≤ hi) (h4 : hi ≤ 1099511627776) :
    Calls Try.prog 12 #[.int .i64 n, .int .i64 lo, .int .i64 hi] w fun e w' => e = .returned (.int .i64 (lo + n % (hi - lo + 1))) ∧ w = w' := by
  have ht := tmod_emod n (hi - lo + 1) (by omega)
  have hp := Int.emod_nonneg n (by omega : hi - lo + 1 ≠ 0)
  have hq := Int.emod_lt_of_pos n (by omega : 0 < hi - lo + 1)
  generalize n % (hi - lo + 1) = r at *
  have b1 : -(hi - lo + 1) < n.tmod (hi - lo + 1) := by rw [ht]; split <;> (try split) <;> omega
  have b2 : n.tmod (hi - lo + 1) < hi - lo + 1 := by rw [ht]; split <;> (try split) <;> omega
  have Ht := Lib.hid ht
  clear ht
  go_enter Try.func12, Try.ntmps12
  go_wp2
  all_goals
    go_ret
    refine ⟨ret_one ?_, rfl⟩
    have := Ht.out
    revert this
    split <;> (try split) <;> intro this <;> omega

end Go.Proofs.Ytjhijpfbokklcaa
