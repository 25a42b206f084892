/- Bytes as a string; the walks of Encode, known, Cut. -/
import Derived.Test.YtndjckfnggnddaaF
import Derived.Deep.AppendLies
namespace Go.Proofs.Ytndjckfnggnddaa
open Go.RowKit
set_option linter.unusedVariables false
set_option linter.unusedSimpArgs false
/-- Bytes as a string. -/
def strOf (bs : List Int) : ByteArray := bs.foldl (fun r n => r.push (UInt8.ofNat n.toNat)) ByteArray.empty
theorem run_str {w : World} {b off n cap : Nat} {bs : List Int} (hn : n = bs.length) (h : ∀ k x, bs[k]? = some x → w.cell? ⟨b, off + k, none⟩ = some (.int .u8 x)) :
    (convert 23 9 (.slice (some ⟨b, off, none⟩) n cap)).run Try.prog w = .ok (.string (strOf bs)) w := by
  rw [run_convert_bytes_string w 23 9 5 _ _ _ Try.underlying23 Try.underlying5 Try.underlying9]
  refine run_bytesToString w _ _ _ bs ?_
  have hl := run_loadCells_list (P := Try.prog) (w := w) (⟨b, off, none⟩ : Addr) (bs.map (Value.int .u8)) (fun j v hj => by
    rw [List.getElem?_map] at hj
    cases hx : bs[j]? with
    | none => rw [hx] at hj; cases hj
    | some x =>
      rw [hx] at hj
      injection hj with hj
      subst hj
      have e : (⟨b, off, none⟩ : Addr).add j = ⟨b, off + j, none⟩ := by
        unfold Addr.add; split
        · rename_i h0; subst h0; rfl
        · rfl
      rw [e]; exact h j x hx)
  rw [List.length_map, ← hn] at hl
  exact hl
theorem own_base {w : World} {base base' : Nat} {e : TypeId} {size : Nat} {v : Value} {n : Nat} {xs : List Value} (h : w.ownsRow base e size v n xs) (hb : base' ≤ base) : w.ownsRow base' e size v n xs :=
  ⟨h.1, h.2.imp id fun ⟨g, cap, cur, hv, h0, hr⟩ => ⟨g, cap, cur, hv, by omega, hr⟩⟩
set_option maxHeartbeats 1000000 in
theorem encode_ok (i : HI) (w : World) (hf : HI.fits i) (hr : HI.right i = true) :
    Calls Try.prog 14 #[.agg #[.int .i64 i.op, .int .i64 i.rd, .int .i64 i.ra, .int .i64 i.rb, .int .u32 i.im]] w fun e w' => ∃ g cap, e = .returned (.tuple #[.slice (some ⟨g, 0, none⟩) 8 cap, .int .i64 0]) ∧ w.heap.size ≤ g ∧ g < w'.heap.size ∧
      w'.ownsRow w.heap.size 5 1 (.slice (some ⟨g, 0, none⟩) 8 cap) 8 ((HI.enc i).map (Value.int .u8)) ∧ Below w.heap.size w w' := by
  have hin : ∀ W : World, InsAt ((W.alloc (.cells #[.int .i64 i.op, .int .i64 i.rd, .int .i64 i.ra, .int .i64 i.rb, .int .u32 i.im] 26)).alloc (.cells #[.int .i64 i.op, .int .i64 i.rd, .int .i64 i.ra, .int .i64 i.rb, .int .u32 i.im] 26)) (some ⟨W.heap.size + 1, 0, none⟩) [i] := by
    intro W h0
    refine ⟨W.heap.size + 1, 0, rfl, by simp, fun k j hk => ?_⟩
    obtain rfl : k = 0 := by
      rcases Nat.eq_zero_or_pos k with h | h
      · exact h
      · rw [List.getElem?_eq_none (by simp; omega)] at hk; cases hk
    obtain rfl : i = j := by simpa using hk
    refine ⟨?_, ?_, ?_, ?_, ?_⟩ <;> exact World.cell?_alloc2_new _ _ _ _
  go_enter Try.func14, Try.ntmps14
  go_wp2_with (go_at_call 6; refine (join_ok _ _ [i] _ (by simp) (hin w) (by simpa using hf) (by simpa using hr)).mono ?_; rintro e w1 ⟨v, rfl, hown, hb⟩)
  go_ret2
  have hown' := own_base hown (base' := w.heap.size) (by simp; omega)
  obtain ⟨g, cap, rfl, hg1, hg2⟩ := hown'.form (by simp)
  refine ⟨g, cap, rfl, hg1, hg2, ?_, (below_alloc (below_alloc (Below.refl _ w) _) _).trans (hb.mono (by simp; omega))⟩
  have e : encs [i] = HI.enc i := by unfold encs; simp
  rw [e] at hown'
  exact hown'

theorem strOf_258 : strOf [1, 3, 0, 0, 2, 1, 0, 0] = ⟨#[1, 3, 0, 0, 2, 1, 0, 0]⟩ := by decide
theorem own_str {w : World} {base g n cap : Nat} {bs : List Int} (hn : n = bs.length) (h : w.ownsRow base 5 1 (.slice (some ⟨g, 0, none⟩) n cap) n (bs.map (Value.int .u8))) :
    (convert 23 9 (.slice (some ⟨g, 0, none⟩) n cap)).run Try.prog w = .ok (.string (strOf bs)) w := by
  refine run_str hn fun k x hk => ?_
  have hk' : k < bs.length := (List.getElem?_eq_some_iff.1 hk).1
  have := h.cells (g := g) rfl k (.int .u8 x) (by rw [List.getElem?_map, hk]; rfl)
  have e : (⟨g, 0, none⟩ : Addr).add k = ⟨g, 0 + k, none⟩ := by
    unfold Addr.add; split
    · rename_i h0; subst h0; rfl
    · rfl
  rwa [e] at this
theorem mk7 (w : World) : (Instr.makeSlice 23 (.int .i64 7) (.int .i64 7)).run Try.prog w = .ok (.slice (some ⟨w.heap.size, 0, none⟩) 7 7) (w.alloc (.cells #[.int .u8 0, .int .u8 0, .int .u8 0, .int .u8 0, .int .u8 0, .int .u8 0, .int .u8 0] 5)) := by kernel_rfl
set_option maxHeartbeats 1000000 in
theorem known_any (w : World) : Calls Try.prog 9 #[] w fun e w' => e = .returned (.bool true) ∧ Below w.heap.size w w' := by
  have hmk := mk7
  go_enter Try.func9, Try.ntmps9
  go_wp2_with (first | (go_at_call 14; refine (encode_ok ⟨1, 3, 0, 0, 258⟩ _ (by unfold HI.fits; decide) (by decide)).mono ?_; rintro e w1 ⟨g, cap, rfl, hg1, hg2, hown, hb⟩) | (go_at_call 13; refine (decode_end _ _ _ _ (by omega) (by omega)).mono ?_; rintro e w2 ⟨rfl, hb2⟩; have hs : ∀ o, (convert 23 9 (.slice (some ⟨g, 0, none⟩) 8 cap)).run Try.prog (w2.alloc o) = .ok (.string ⟨#[1, 3, 0, 0, 2, 1, 0, 0]⟩) (w2.alloc o) := fun o => (own_str (bs := [1, 3, 0, 0, 2, 1, 0, 0]) rfl ((own_below (hown.alloc _) hb2).alloc o)).trans (by rw [strOf_258])))
  go_ret
  exact ⟨rfl, below_alloc (hb.trans ((below_alloc (Below.refl _ w1) _).mono hb.size |>.trans (hb2.mono (by have := hb.size; simp; omega)))) _⟩

theorem ret_v {v v' : Value} (h : v = v') : Ending.returned v = .returned v' := by rw [h]
set_option maxHeartbeats 400000 in
theorem cut_any (A : Option Addr) (len cap : Nat) (m : Nat) (w : World) (hl : len ≤ cap) (hc : cap ≤ maxLen) (hm : m ≤ 1000000) :
    Calls Try.prog 8 #[.slice A len cap, .int .i64 m] w fun e w' => e = .returned (.slice A (min len m) cap) ∧ w = w' := by
  unfold maxLen at hc
  by_cases h : m < len
  all_goals
    have e := Lib.hid (p := min len m = if m < len then m else len) (by split <;> omega)
    generalize min len m = q at *
    go_enter Try.func8, Try.ntmps8
    go_wp2
    go_ret
    refine ⟨ret_v ?_, rfl⟩
    rw [e.out]; simp [h]
end Go.Proofs.Ytndjckfnggnddaa
