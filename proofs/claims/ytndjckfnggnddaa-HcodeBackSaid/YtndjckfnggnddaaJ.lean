/- The walk of HcodeBack. -/
import Derived.Test.YtndjckfnggnddaaI
namespace Go.Proofs.Ytndjckfnggnddaa
open Go.RowKit
set_option linter.unusedVariables false
set_option linter.unusedSimpArgs false
theorem all_ok (A : Option Addr) (cap : Nat) (bs : List Int) (w : World) (hl : bs.length ≤ 8000) (hcap : bs.length ≤ cap) (hcm : cap ≤ maxLen) (hA : BytesIn w w.heap.size A bs) (h8 : bs.length % 8 = 0) (hall : ∀ j < bs.length / 8, HI.right (dec bs j) = true) :
    Calls Try.prog 7 #[.slice A bs.length cap] w fun e w' => ∃ A3 c3, e = .returned (.tuple #[.slice A3 (bs.length / 8) c3, .int .i64 0]) ∧ InsAt w' A3 (decs bs (bs.length / 8)) ∧ bs.length / 8 ≤ c3 ∧ c3 ≤ maxLen ∧ Below w.heap.size w w' :=
  (all_any A cap bs w hl hcap hcm hA).mono fun e w' ⟨hb, h⟩ => by
    rcases h with ⟨_, _, v, rfl, hown⟩ | ⟨⟨j, hj, hbad⟩, _⟩ | ⟨h, _⟩
    · have hd : (decs bs (bs.length / 8)).length = bs.length / 8 := by unfold decs; simp
      obtain ⟨A3, c3, rfl, hin, hc, hm⟩ := own_ins hown hd.symm
      rw [hd] at hc ⊢
      exact ⟨A3, c3, rfl, hin, hc, hm, hb⟩
    · rw [hall j hj] at hbad; cases hbad
    · exact absurd h8 h
theorem all_12 (A : Option Addr) (cap : Nat) (bs : List Int) (w : World) (hl : bs.length ≤ 8000) (hcap : bs.length ≤ cap) (hcm : cap ≤ maxLen) (hA : BytesIn w w.heap.size A bs) (hall : ¬ ∀ j < bs.length / 8, HI.right (dec bs j) = true) :
    Calls Try.prog 7 #[.slice A bs.length cap] w fun e w' => e = .returned (.tuple #[.slice none 0 0, .int .i64 12]) ∧ Below w.heap.size w w' :=
  (all_any A cap bs w hl hcap hcm hA).mono fun e w' ⟨hb, h⟩ => by
    rcases h with ⟨_, h, _⟩ | ⟨_, h⟩ | ⟨_, h, _⟩
    · exact absurd h hall
    · exact ⟨h, hb⟩
    · exact absurd h hall
theorem all_10 (A : Option Addr) (cap : Nat) (bs : List Int) (w : World) (hl : bs.length ≤ 8000) (hcap : bs.length ≤ cap) (hcm : cap ≤ maxLen) (hA : BytesIn w w.heap.size A bs) (h8 : ¬ bs.length % 8 = 0) (hall : ∀ j < bs.length / 8, HI.right (dec bs j) = true) :
    Calls Try.prog 7 #[.slice A bs.length cap] w fun e w' => e = .returned (.tuple #[.slice none 0 0, .int .i64 10]) ∧ Below w.heap.size w w' :=
  (all_any A cap bs w hl hcap hcm hA).mono fun e w' ⟨hb, h⟩ => by
    rcases h with ⟨h, _⟩ | ⟨⟨j, hj, hbad⟩, _⟩ | ⟨_, _, h⟩
    · exact absurd h h8
    · rw [hall j hj] at hbad; cases hbad
    · exact ⟨h, hb⟩
theorem decs_get (bs : List Int) (n q : Nat) (h : q < n) : (decs bs n)[q]? = some (dec bs q) := by
  unfold decs
  rw [List.getElem?_map, List.getElem?_range h]; rfl
/-- Bytes that are read are written so. -/
theorem enc_dec (bs : List Int) (hb : ∀ x ∈ bs, isByte x) (h8 : bs.length % 8 = 0) : encs (decs bs (bs.length / 8)) = bs := by
  have hl : (decs bs (bs.length / 8)).length = bs.length / 8 := by unfold decs; simp
  apply List.ext_getElem?
  intro k
  by_cases hk : k < bs.length
  · have hq : k / 8 < (decs bs (bs.length / 8)).length := by rw [hl]; omega
    have h := encs_get (decs bs (bs.length / 8)) (k / 8) (k % 8) hq (by omega)
    rw [show 8 * (k / 8) + k % 8 = k from by omega] at h
    rw [h]
    have hd : (decs bs (bs.length / 8))[k / 8] = dec bs (k / 8) := by
      have h2 := decs_get bs (bs.length / 8) (k / 8) (by omega)
      rw [List.getElem?_eq_getElem hq] at h2
      injection h2
    rw [hd]
    have ha : bs[k]? = some (byteAt bs k) := by
      unfold byteAt
      rw [List.getD_eq_getElem?_getD, List.getElem?_eq_getElem hk]; rfl
    rw [ha]
    have hB := byteAt_ok hb
    unfold HI.enc dec
    rw [imF_eq _ _ _ _ (hB _) (hB _) (hB _) (hB _)]
    have e : k = 8 * (k / 8) + k % 8 := by omega
    generalize hm : k % 8 = m at *
    generalize k / 8 = q at *
    subst e
    obtain ⟨a0, a1⟩ := hB (8 * q)
    obtain ⟨b0, b1⟩ := hB (8 * q + 1)
    obtain ⟨c0, c1⟩ := hB (8 * q + 2)
    obtain ⟨d0, d1⟩ := hB (8 * q + 3)
    obtain ⟨e0, e1⟩ := hB (8 * q + 4)
    obtain ⟨f0, f1⟩ := hB (8 * q + 5)
    obtain ⟨g0, g1⟩ := hB (8 * q + 6)
    obtain ⟨i0, i1⟩ := hB (8 * q + 7)
    rcases (by omega : m = 0 ∨ m = 1 ∨ m = 2 ∨ m = 3 ∨ m = 4 ∨ m = 5 ∨ m = 6 ∨ m = 7) with rfl | rfl | rfl | rfl | rfl | rfl | rfl | rfl <;> simp <;> omega
  · rw [List.getElem?_eq_none (by rw [encs_length, hl]; omega), List.getElem?_eq_none (by omega)]
theorem run_str_any {w : World} {B cap : Nat} {A : Option Addr} {bs : List Int} (h : BytesIn w B A bs) :
    (convert 23 9 (.slice A bs.length cap)).run Try.prog w = .ok (.string (strOf bs)) w := by
  by_cases h0 : 0 < bs.length
  · obtain ⟨b, off, rfl, _, hc⟩ := h.2 h0
    exact run_str rfl hc
  · obtain rfl : bs = [] := by cases bs with
      | nil => rfl
      | cons a l => exact absurd (by simp) h0
    cases A with
    | none =>
      rw [run_convert_bytes_string w 23 9 5 _ _ _ Try.underlying23 Try.underlying5 Try.underlying9]
      rfl
    | some a =>
      rw [run_convert_bytes_string w 23 9 5 _ _ _ Try.underlying23 Try.underlying5 Try.underlying9]
      exact run_bytesToString w a 0 cap [] (by rfl)
theorem imF_rng {a b c d : Int} (ha : isByte a) (hb : isByte b) (hc : isByte c) (hd : isByte d) : 0 ≤ imF a b c d ∧ imF a b c d < 4294967296 := by
  rw [imF_eq a b c d ha hb hc hd]
  obtain ⟨_, _⟩ := ha
  obtain ⟨_, _⟩ := hb
  obtain ⟨_, _⟩ := hc
  obtain ⟨_, _⟩ := hd
  omega
theorem decs_fits (bs : List Int) (hb : ∀ x ∈ bs, isByte x) (n : Nat) : ∀ i ∈ decs bs n, HI.fits i := by
  intro i hi
  unfold decs at hi
  rw [List.mem_map] at hi
  obtain ⟨j, _, rfl⟩ := hi
  exact imF_rng (byteAt_ok hb _) (byteAt_ok hb _) (byteAt_ok hb _) (byteAt_ok hb _)
theorem decs_right (bs : List Int) (n : Nat) (h : ∀ j < n, HI.right (dec bs j) = true) : ∀ i ∈ decs bs n, HI.right i = true := by
  intro i hi
  unfold decs at hi
  rw [List.mem_map] at hi
  obtain ⟨j, hj, rfl⟩ := hi
  exact h j (by simpa using hj)
end Go.Proofs.Ytndjckfnggnddaa
