/- The walks of Flags, Holds, Sign, known, same. No condition but that a word is one. -/
import Derived.Test.YtjdhdciijdpghaaX
namespace Go.Proofs.Ytjdhdciijdpghaa
open Go.RowKit
set_option linter.unusedVariables false
set_option linter.unusedSimpArgs false

def hB (op f : Int) : Bool :=
  if op = 33 then bits BinOp.and IntKind.u32 f 1 != 0 else if op = 34 then bits BinOp.and IntKind.u32 f 1 == 0 else if op = 35 then bits BinOp.and IntKind.u32 f 4 != 0
  else if op = 36 then bits BinOp.and IntKind.u32 f 2 != 0 else if op = 37 then bits BinOp.and IntKind.u32 f 8 != 0 else false
def hK (op : Int) : Bool := decide (33 ≤ op ∧ op ≤ 37)
theorem ret_bb {u u' v v' : Bool} (h : u = u') (h' : v = v') : Ending.returned (.tuple #[.bool u, .bool v]) = .returned (.tuple #[.bool u', .bool v']) := by rw [h, h']
theorem ret_b {u u' : Bool} (h : u = u') : Ending.returned (.bool u) = .returned (.bool u') := by rw [h]

set_option maxHeartbeats 400000 in
theorem holds_any (op f : Int) (w : World) :
    Calls Try.prog 12 #[.int .i64 op, .int .u32 f] w fun e w' => e = .returned (.tuple #[.bool (hB op f), .bool (hK op)]) ∧ w = w' := by
  by_cases h : op < 33 ∨ 37 < op
  · have h1 : hB op f = false := by unfold hB; repeat (first | rw [if_neg (by omega)])
    have h2 : hK op = false := by unfold hK; simp; omega
    have H1 := Lib.hid h1
    have H2 := Lib.hid h2
    clear h1 h2
    rcases h with h | h
    all_goals
      go_enter Try.func12, Try.ntmps12
      go_wp2
      go_ret2
      exact ⟨ret_bb H1.out.symm H2.out.symm, rfl⟩
  · rcases (by omega : op = 33 ∨ op = 34 ∨ op = 35 ∨ op = 36 ∨ op = 37) with rfl | rfl | rfl | rfl | rfl
    all_goals
      go_enter Try.func12, Try.ntmps12
      go_wp2
      go_ret2
      exact ⟨ret_bb rfl rfl, rfl⟩
set_option maxHeartbeats 400000 in
theorem refholds_any (op f : Int) (w : World) :
    Calls Try.prog 13 #[.int .i64 op, .int .u32 f] w fun e w' => e = .returned (.tuple #[.bool (hB op f), .bool (hK op)]) ∧ w = w' := by
  by_cases h : op < 33 ∨ 37 < op
  · have h1 : hB op f = false := by unfold hB; repeat (first | rw [if_neg (by omega)])
    have h2 : hK op = false := by unfold hK; simp; omega
    have H1 := Lib.hid h1
    have H2 := Lib.hid h2
    clear h1 h2
    rcases h with h | h
    all_goals
      go_enter Try.func13, Try.ntmps13
      go_wp2
      go_ret2
      exact ⟨ret_bb H1.out.symm H2.out.symm, rfl⟩
  · rcases (by omega : op = 33 ∨ op = 34 ∨ op = 35 ∨ op = 36 ∨ op = 37) with rfl | rfl | rfl | rfl | rfl
    all_goals
      go_enter Try.func13, Try.ntmps13
      go_wp2
      go_ret2
      exact ⟨ret_bb rfl rfl, rfl⟩
def sgF (b : Int) : Int := if 128 ≤ b % 256 then b % 256 + 4294967040 else b % 256
set_option maxHeartbeats 400000 in
theorem sign_any (b : Int) (w : World) (h0 : 0 ≤ b) (h1 : b < 4294967296) :
    Calls Try.prog 14 #[.int .u32 b] w fun e w' => e = .returned (.int .u32 (sgF b)) ∧ w = w' := by
  go_enter Try.func14, Try.ntmps14
  go_wp2
  go_ret
  refine ⟨ret_one ?_, rfl⟩
  have e : IntKind.i8.wrap b = if 128 ≤ b % 256 then b % 256 - 256 else b % 256 := by
    unfold IntKind.wrap
    simp [IntKind.bits, IntKind.signed]
  rw [e]
  unfold wrap32 sgF
  split <;> omega
set_option maxHeartbeats 400000 in
theorem refsign_any (b : Int) (w : World) (h0 : 0 ≤ b) (h1 : b < 4294967296) :
    Calls Try.prog 15 #[.int .u32 b] w fun e w' => e = .returned (.int .u32 (sgF b)) ∧ w = w' := by
  go_enter Try.func15, Try.ntmps15
  go_wp2
  all_goals
    go_ret
    refine ⟨ret_one ?_, rfl⟩
    unfold sgF
    split <;> omega
theorem ret_two {a a' : Int} {u u' : Bool} (h : a = a') (h'' : u = u') :
    Ending.returned (.tuple #[.int .u32 a, .bool u]) = .returned (.tuple #[.int .u32 a', .bool u']) := by rw [h, h'']
set_option maxHeartbeats 400000 in
theorem flags_any (op a b : Int) (w : World) (h0 : 0 ≤ a) (h1 : a < 4294967296) (h2 : 0 ≤ b) (h3 : b < 4294967296) :
    Calls Try.prog 16 #[.int .i64 op, .int .u32 a, .int .u32 b] w fun e w' => e = .returned (.tuple #[.int .u32 (doF op a b), .bool (doK op b)]) ∧ w = w' := by
  go_enter Try.func16, Try.ntmps16
  go_wp2_with (go_at_call 9; refine (do_any _ _ _ _ h0 h1 h2 h3).mono ?_; rintro e w' ⟨rfl, rfl⟩)
  go_ret2
  exact ⟨ret_two rfl rfl, rfl⟩
set_option maxHeartbeats 400000 in
theorem same_any (op a b : Int) (w : World) (h0 : 0 ≤ a) (h1 : a < 4294967296) (h2 : 0 ≤ b) (h3 : b < 4294967296) :
    Calls Try.prog 11 #[.int .i64 op, .int .u32 a, .int .u32 b] w fun e w' => e = .returned (.bool true) ∧ w = w' := by
  go_enter Try.func11, Try.ntmps11
  go_wp2_with (first | (go_at_call 9; refine (do_any _ _ _ _ h0 h1 h2 h3).mono ?_; rintro e w' ⟨rfl, rfl⟩) | (go_at_call 21; refine (ref_any _ _ _ _ h0 h1 h2 h3).mono ?_; rintro e w' ⟨rfl, rfl⟩) | (go_at_call 16; refine (flags_any _ _ _ _ h0 h1 h2 h3).mono ?_; rintro e w' ⟨rfl, rfl⟩))
  all_goals go_ret
  exact ⟨ret_b rfl, rfl⟩
set_option maxHeartbeats 400000 in
theorem known_any (w : World) :
    Calls Try.prog 10 #[] w fun e w' => e = .returned (.bool true) ∧ w = w' := by
  go_enter Try.func10, Try.ntmps10
  go_wp2_with (first | (go_at_call 9; refine (do_any _ _ _ _ (by omega) (by omega) (by omega) (by omega)).mono ?_; rintro e w' ⟨rfl, rfl⟩) | (go_at_call 14; refine (sign_any _ _ (by omega) (by omega)).mono ?_; rintro e w' ⟨rfl, rfl⟩))
  all_goals go_ret
  exact ⟨ret_b (by decide), rfl⟩
end Go.Proofs.Ytjdhdciijdpghaa
