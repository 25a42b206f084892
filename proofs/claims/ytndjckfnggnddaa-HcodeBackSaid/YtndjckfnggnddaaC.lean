/- The walks of Within, Fields, made. No condition but that a number is an int. -/
import Derived.Test.YtndjckfnggnddaaB
namespace Go.Proofs.Ytndjckfnggnddaa
open Go.RowKit
set_option linter.unusedVariables false
set_option linter.unusedSimpArgs false
theorem ret_one {k : IntKind} {a b : Int} (h : a = b) : Ending.returned (.int k a) = .returned (.int k b) := by rw [h]
theorem tmod_emod (n m : Int) (hm : 0 < m) : n.tmod m = if 0 ≤ n then n % m else if n % m = 0 then 0 else n % m - m := by
  split
  · rename_i h; exact Int.tmod_eq_emod_of_nonneg h
  · rename_i h
    have h1 : n.tmod m = - ((-n) % m) := by
      have := Int.neg_tmod (-n) m
      rw [Int.neg_neg] at this
      rw [this, Int.tmod_eq_emod_of_nonneg (by omega)]
    have h2 : (-n) % m = if n % m = 0 then 0 else m - n % m := by
      have hd := Int.mul_ediv_add_emod n m
      have hp := Int.emod_nonneg n (by omega : m ≠ 0)
      have hq := Int.emod_lt_of_pos n hm
      split
      · rename_i h0
        have : m ∣ n := Int.dvd_of_emod_eq_zero h0
        exact Int.emod_eq_zero_of_dvd (Int.dvd_neg.2 this)
      · rename_i h0
        have e : -n = (m - n % m) + m * (-(n / m) - 1) := by
          rw [Int.mul_sub, Int.mul_neg, Int.mul_one]; omega
        rw [e, Int.add_mul_emod_self_left]
        exact Int.emod_eq_of_lt (by omega) (by omega)
    rw [h1, h2]; split <;> omega
set_option maxHeartbeats 400000 in
theorem within_any (n lo hi : Int) (w : World) (h0 : -9223372036854775808 ≤ n) (h1 : n ≤ 9223372036854775807) (h2 : 0 ≤ lo) (h3 : lo ≤ hi) (h4 : hi ≤ 1099511627776) :
    Calls Try.prog 10 #[.int .i64 n, .int .i64 lo, .int .i64 hi] w fun e w' => e = .returned (.int .i64 (lo + n % (hi - lo + 1))) ∧ w = w' := by
  have ht := tmod_emod n (hi - lo + 1) (by omega)
  have hp := Int.emod_nonneg n (by omega : hi - lo + 1 ≠ 0)
  have hq := Int.emod_lt_of_pos n (by omega : 0 < hi - lo + 1)
  generalize n % (hi - lo + 1) = r at *
  have b1 : -(hi - lo + 1) < n.tmod (hi - lo + 1) := by rw [ht]; split <;> (try split) <;> omega
  have b2 : n.tmod (hi - lo + 1) < hi - lo + 1 := by rw [ht]; split <;> (try split) <;> omega
  have Ht := Lib.hid ht
  clear ht
  go_enter Try.func10, Try.ntmps10
  go_wp2
  all_goals
    go_ret
    refine ⟨ret_one ?_, rfl⟩
    have := Ht.out
    revert this
    split <;> (try split) <;> intro this <;> omega

/-- Which fields an operation names. -/
def fldF (op : Int) : Int :=
  if op = 0 then 0 else if op = 1 then 9 else if op = 2 then 3 else if 3 ≤ op ∧ op ≤ 13 then 7 else if op = 14 then 11 else if op = 15 then 14
  else if op = 16 ∨ op = 17 then 10 else if op = 18 ∨ op = 19 then 8 else -1
set_option maxHeartbeats 400000 in
theorem fields_any (op : Int) (w : World) : Calls Try.prog 11 #[.int .i64 op] w fun e w' => e = .returned (.int .i64 (fldF op)) ∧ w = w' := by
  generalize hF : fldF op = F
  have HF := Lib.hid hF
  clear hF
  go_enter Try.func11, Try.ntmps11
  go_wp2
  all_goals
    go_ret
    refine ⟨ret_one ?_, rfl⟩
    rw [← HF.out]
    unfold fldF
    (try simp only [beq_iff_eq, beq_eq_false_iff_ne, ne_eq] at *)
    (repeat' split) <;> omega

theorem fld_bits (p : Int) (h0 : 0 ≤ p) (h1 : p ≤ 19) :
    (bits BinOp.and IntKind.i64 (fldF p) 1 != 0) = rdB p ∧ (bits BinOp.and IntKind.i64 (fldF p) 2 != 0) = raB p ∧
    (bits BinOp.and IntKind.i64 (fldF p) 4 != 0) = rbB p ∧ (bits BinOp.and IntKind.i64 (fldF p) 8 != 0) = imB p := by
  rcases (by omega : p = 0 ∨ p = 1 ∨ p = 2 ∨ p = 3 ∨ p = 4 ∨ p = 5 ∨ p = 6 ∨ p = 7 ∨ p = 8 ∨ p = 9 ∨ p = 10 ∨ p = 11 ∨ p = 12 ∨ p = 13 ∨ p = 14 ∨ p = 15 ∨ p = 16 ∨ p = 17 ∨ p = 18 ∨ p = 19) with
    rfl | rfl | rfl | rfl | rfl | rfl | rfl | rfl | rfl | rfl | rfl | rfl | rfl | rfl | rfl | rfl | rfl | rfl | rfl | rfl <;> decide
theorem madepost {op rd ra rb im a b c d : Int} {w w' : World} (h1 : sel (rdB op) rd = a) (h2 : sel (raB op) ra = b) (h3 : sel (rbB op) rb = c) (h4 : sel (imB op) im = d) (hb : Below w.heap.size w w') :
    Ending.returned (.agg #[.int .i64 op, .int .i64 a, .int .i64 b, .int .i64 c, .int .u32 d]) = .returned (.agg #[.int .i64 op, .int .i64 (sel (rdB op) rd), .int .i64 (sel (raB op) ra), .int .i64 (sel (rbB op) rb), .int .u32 (sel (imB op) im)]) ∧ Below w.heap.size w w' := by
  subst h1 h2 h3 h4; exact ⟨rfl, hb⟩
def isInt (n : Int) : Prop := -9223372036854775808 ≤ n ∧ n ≤ 9223372036854775807
set_option maxHeartbeats 2000000 in
theorem made_any (op rd ra rb im : Int) (w : World) (h0 : isInt op) (h1 : isInt rd) (h2 : isInt ra) (h3 : isInt rb) :
    Calls Try.prog 5 #[.agg #[.int .i64 op, .int .i64 rd, .int .i64 ra, .int .i64 rb, .int .u32 im]] w fun e w' =>
      e = .returned (.agg #[.int .i64 (op % 20), .int .i64 (sel (rdB (op % 20)) (rd % 16)), .int .i64 (sel (raB (op % 20)) (ra % 16)), .int .i64 (sel (rbB (op % 20)) (rb % 16)), .int .u32 (sel (imB (op % 20)) im)]) ∧ Below w.heap.size w w' := by
  obtain ⟨b1, b2, b3, b4⟩ := fld_bits (op % 20) (by omega) (by omega)
  have hw := fun (w : World) => within_any op 0 19 w h0.1 h0.2 (by omega) (by omega) (by omega)
  have hv := fun (n : Int) (hn : isInt n) (w : World) => within_any n 0 15 w hn.1 hn.2 (by omega) (by omega) (by omega)
  simp only [Int.sub_zero, Int.zero_add, Int.reduceAdd] at hw hv
  generalize op % 20 = p at *
  have HW := Lib.hid hw
  have V1 := Lib.hid (fun w => hv rd h1 w)
  have V2 := Lib.hid (fun w => hv ra h2 w)
  have V3 := Lib.hid (fun w => hv rb h3 w)
  clear hw hv h0 h1 h2 h3
  rcases Bool.eq_false_or_eq_true (rdB p) with e1 | e1 <;> rcases Bool.eq_false_or_eq_true (raB p) with e2 | e2 <;> rcases Bool.eq_false_or_eq_true (rbB p) with e3 | e3 <;> rcases Bool.eq_false_or_eq_true (imB p) with e4 | e4
  all_goals
    rw [e1] at b1
    rw [e2] at b2
    rw [e3] at b3
    rw [e4] at b4
    have E1 := Lib.hid e1
    have E2 := Lib.hid e2
    have E3 := Lib.hid e3
    have E4 := Lib.hid e4
    clear e1 e2 e3 e4
    go_enter Try.func5, Try.ntmps5
    go_wp2_with fail
    refine (HW.out _).mono ?_
    rintro e w1 ⟨rfl, rfl⟩
    go_wp2_with (first | (go_at_call 11; refine (fields_any _ _).mono ?_; rintro e w1 ⟨rfl, rfl⟩) | (go_at_call 10; (with_reducible refine (V1.out _).mono ?_); rintro e w1 ⟨rfl, rfl⟩) | (go_at_call 10; (with_reducible refine (V2.out _).mono ?_); rintro e w1 ⟨rfl, rfl⟩) | (go_at_call 10; (with_reducible refine (V3.out _).mono ?_); rintro e w1 ⟨rfl, rfl⟩))
  · refine bodyPost_ret (v := .agg #[.int .i64 p, .int .i64 (rd % 16), .int .i64 (ra % 16), .int .i64 (rb % 16), .int .u32 (im)]) (by simp [results, Try.results5, go_sem]) rfl (madepost (op := p) (rd := rd % 16) (ra := ra % 16) (rb := rb % 16) (im := im) (a := rd % 16) (b := ra % 16) (c := rb % 16) (d := im) (by simp [sel, E1.out]) (by simp [sel, E2.out]) (by simp [sel, E3.out]) (by simp [sel, E4.out]) (below_alloc (below_alloc (below_alloc (Below.refl _ _) _) _) _))
  · refine bodyPost_ret (v := .agg #[.int .i64 p, .int .i64 (rd % 16), .int .i64 (ra % 16), .int .i64 (rb % 16), .int .u32 (0)]) (by simp [results, Try.results5, go_sem]) rfl (madepost (op := p) (rd := rd % 16) (ra := ra % 16) (rb := rb % 16) (im := im) (a := rd % 16) (b := ra % 16) (c := rb % 16) (d := 0) (by simp [sel, E1.out]) (by simp [sel, E2.out]) (by simp [sel, E3.out]) (by simp [sel, E4.out]) (below_alloc (below_alloc (below_alloc (Below.refl _ _) _) _) _))
  · refine bodyPost_ret (v := .agg #[.int .i64 p, .int .i64 (rd % 16), .int .i64 (ra % 16), .int .i64 (0), .int .u32 (im)]) (by simp [results, Try.results5, go_sem]) rfl (madepost (op := p) (rd := rd % 16) (ra := ra % 16) (rb := rb % 16) (im := im) (a := rd % 16) (b := ra % 16) (c := 0) (d := im) (by simp [sel, E1.out]) (by simp [sel, E2.out]) (by simp [sel, E3.out]) (by simp [sel, E4.out]) (below_alloc (below_alloc (below_alloc (Below.refl _ _) _) _) _))
  · refine bodyPost_ret (v := .agg #[.int .i64 p, .int .i64 (rd % 16), .int .i64 (ra % 16), .int .i64 (0), .int .u32 (0)]) (by simp [results, Try.results5, go_sem]) rfl (madepost (op := p) (rd := rd % 16) (ra := ra % 16) (rb := rb % 16) (im := im) (a := rd % 16) (b := ra % 16) (c := 0) (d := 0) (by simp [sel, E1.out]) (by simp [sel, E2.out]) (by simp [sel, E3.out]) (by simp [sel, E4.out]) (below_alloc (below_alloc (below_alloc (Below.refl _ _) _) _) _))
  · refine bodyPost_ret (v := .agg #[.int .i64 p, .int .i64 (rd % 16), .int .i64 (0), .int .i64 (rb % 16), .int .u32 (im)]) (by simp [results, Try.results5, go_sem]) rfl (madepost (op := p) (rd := rd % 16) (ra := ra % 16) (rb := rb % 16) (im := im) (a := rd % 16) (b := 0) (c := rb % 16) (d := im) (by simp [sel, E1.out]) (by simp [sel, E2.out]) (by simp [sel, E3.out]) (by simp [sel, E4.out]) (below_alloc (below_alloc (below_alloc (Below.refl _ _) _) _) _))
  · refine bodyPost_ret (v := .agg #[.int .i64 p, .int .i64 (rd % 16), .int .i64 (0), .int .i64 (rb % 16), .int .u32 (0)]) (by simp [results, Try.results5, go_sem]) rfl (madepost (op := p) (rd := rd % 16) (ra := ra % 16) (rb := rb % 16) (im := im) (a := rd % 16) (b := 0) (c := rb % 16) (d := 0) (by simp [sel, E1.out]) (by simp [sel, E2.out]) (by simp [sel, E3.out]) (by simp [sel, E4.out]) (below_alloc (below_alloc (below_alloc (Below.refl _ _) _) _) _))
  · refine bodyPost_ret (v := .agg #[.int .i64 p, .int .i64 (rd % 16), .int .i64 (0), .int .i64 (0), .int .u32 (im)]) (by simp [results, Try.results5, go_sem]) rfl (madepost (op := p) (rd := rd % 16) (ra := ra % 16) (rb := rb % 16) (im := im) (a := rd % 16) (b := 0) (c := 0) (d := im) (by simp [sel, E1.out]) (by simp [sel, E2.out]) (by simp [sel, E3.out]) (by simp [sel, E4.out]) (below_alloc (below_alloc (below_alloc (Below.refl _ _) _) _) _))
  · refine bodyPost_ret (v := .agg #[.int .i64 p, .int .i64 (rd % 16), .int .i64 (0), .int .i64 (0), .int .u32 (0)]) (by simp [results, Try.results5, go_sem]) rfl (madepost (op := p) (rd := rd % 16) (ra := ra % 16) (rb := rb % 16) (im := im) (a := rd % 16) (b := 0) (c := 0) (d := 0) (by simp [sel, E1.out]) (by simp [sel, E2.out]) (by simp [sel, E3.out]) (by simp [sel, E4.out]) (below_alloc (below_alloc (below_alloc (Below.refl _ _) _) _) _))
  · refine bodyPost_ret (v := .agg #[.int .i64 p, .int .i64 (0), .int .i64 (ra % 16), .int .i64 (rb % 16), .int .u32 (im)]) (by simp [results, Try.results5, go_sem]) rfl (madepost (op := p) (rd := rd % 16) (ra := ra % 16) (rb := rb % 16) (im := im) (a := 0) (b := ra % 16) (c := rb % 16) (d := im) (by simp [sel, E1.out]) (by simp [sel, E2.out]) (by simp [sel, E3.out]) (by simp [sel, E4.out]) (below_alloc (below_alloc (below_alloc (Below.refl _ _) _) _) _))
  · refine bodyPost_ret (v := .agg #[.int .i64 p, .int .i64 (0), .int .i64 (ra % 16), .int .i64 (rb % 16), .int .u32 (0)]) (by simp [results, Try.results5, go_sem]) rfl (madepost (op := p) (rd := rd % 16) (ra := ra % 16) (rb := rb % 16) (im := im) (a := 0) (b := ra % 16) (c := rb % 16) (d := 0) (by simp [sel, E1.out]) (by simp [sel, E2.out]) (by simp [sel, E3.out]) (by simp [sel, E4.out]) (below_alloc (below_alloc (below_alloc (Below.refl _ _) _) _) _))
  · refine bodyPost_ret (v := .agg #[.int .i64 p, .int .i64 (0), .int .i64 (ra % 16), .int .i64 (0), .int .u32 (im)]) (by simp [results, Try.results5, go_sem]) rfl (madepost (op := p) (rd := rd % 16) (ra := ra % 16) (rb := rb % 16) (im := im) (a := 0) (b := ra % 16) (c := 0) (d := im) (by simp [sel, E1.out]) (by simp [sel, E2.out]) (by simp [sel, E3.out]) (by simp [sel, E4.out]) (below_alloc (below_alloc (below_alloc (Below.refl _ _) _) _) _))
  · refine bodyPost_ret (v := .agg #[.int .i64 p, .int .i64 (0), .int .i64 (ra % 16), .int .i64 (0), .int .u32 (0)]) (by simp [results, Try.results5, go_sem]) rfl (madepost (op := p) (rd := rd % 16) (ra := ra % 16) (rb := rb % 16) (im := im) (a := 0) (b := ra % 16) (c := 0) (d := 0) (by simp [sel, E1.out]) (by simp [sel, E2.out]) (by simp [sel, E3.out]) (by simp [sel, E4.out]) (below_alloc (below_alloc (below_alloc (Below.refl _ _) _) _) _))
  · refine bodyPost_ret (v := .agg #[.int .i64 p, .int .i64 (0), .int .i64 (0), .int .i64 (rb % 16), .int .u32 (im)]) (by simp [results, Try.results5, go_sem]) rfl (madepost (op := p) (rd := rd % 16) (ra := ra % 16) (rb := rb % 16) (im := im) (a := 0) (b := 0) (c := rb % 16) (d := im) (by simp [sel, E1.out]) (by simp [sel, E2.out]) (by simp [sel, E3.out]) (by simp [sel, E4.out]) (below_alloc (below_alloc (below_alloc (Below.refl _ _) _) _) _))
  · refine bodyPost_ret (v := .agg #[.int .i64 p, .int .i64 (0), .int .i64 (0), .int .i64 (rb % 16), .int .u32 (0)]) (by simp [results, Try.results5, go_sem]) rfl (madepost (op := p) (rd := rd % 16) (ra := ra % 16) (rb := rb % 16) (im := im) (a := 0) (b := 0) (c := rb % 16) (d := 0) (by simp [sel, E1.out]) (by simp [sel, E2.out]) (by simp [sel, E3.out]) (by simp [sel, E4.out]) (below_alloc (below_alloc (below_alloc (Below.refl _ _) _) _) _))
  · refine bodyPost_ret (v := .agg #[.int .i64 p, .int .i64 (0), .int .i64 (0), .int .i64 (0), .int .u32 (im)]) (by simp [results, Try.results5, go_sem]) rfl (madepost (op := p) (rd := rd % 16) (ra := ra % 16) (rb := rb % 16) (im := im) (a := 0) (b := 0) (c := 0) (d := im) (by simp [sel, E1.out]) (by simp [sel, E2.out]) (by simp [sel, E3.out]) (by simp [sel, E4.out]) (below_alloc (below_alloc (below_alloc (Below.refl _ _) _) _) _))
  · refine bodyPost_ret (v := .agg #[.int .i64 p, .int .i64 (0), .int .i64 (0), .int .i64 (0), .int .u32 (0)]) (by simp [results, Try.results5, go_sem]) rfl (madepost (op := p) (rd := rd % 16) (ra := ra % 16) (rb := rb % 16) (im := im) (a := 0) (b := 0) (c := 0) (d := 0) (by simp [sel, E1.out]) (by simp [sel, E2.out]) (by simp [sel, E3.out]) (by simp [sel, E4.out]) (below_alloc (below_alloc (below_alloc (Below.refl _ _) _) _) _))
end Go.Proofs.Ytndjckfnggnddaa
