/- Chapter 2: what is written is read again: plain laws. -/
import Derived.Test.YtpfmmckbfejfnaaDoorGq
namespace Go.Proofs.YtpfmmckbfejfnaaDoor
open Go Go.Ev Go.RowKit
set_option linter.unusedVariables false
set_option linter.unusedSimpArgs false
set_option maxRecDepth 100000
namespace Gc
/-- An instruction that is right. -/
structure OkIn (p : In) : Prop where
  lo : 0 ≤ p.1
  hi : p.1 < 256
  sz : sizeV p.1 = 1 ∨ sizeV p.1 = 2 ∨ sizeV p.1 = 5
  rt : rightV p.1 p.2 = true
  nu : u32B p.2 = true
def encB (op N : Int) : List Int := bif sizeV op == 1 then [op] else bif sizeV op == 2 then [op, N] else [op, N % 256, N / 256 % 256, N / 65536 % 256, N / 16777216 % 256]
theorem OkIn.num {p : In} (h : OkIn p) : 0 ≤ p.2 ∧ p.2 < 4294967296 := by
  have := h.nu
  simp only [u32B, Bool.and_eq_true, decide_eq_true_eq] at this
  exact this
theorem OkIn.num2 {p : In} (h : OkIn p) (hz : sizeV p.1 = 2) : p.2 < 256 := by
  have := h.rt
  simp [rightV, hz] at this
  omega
theorem OkIn.num1 {p : In} (h : OkIn p) (hz : sizeV p.1 = 1) : p.2 = 0 := by
  have := h.rt
  simp [rightV, hz] at this
  omega
theorem encB_eq {p : In} (h : OkIn p) : encL p.1 p.2 = (encB p.1 p.2).map (Value.int .u8) := by
  obtain ⟨n0, n1⟩ := h.num
  have ho : by0 p.1 = .int .u8 p.1 := by unfold by0; rw [wrap_byte h.lo h.hi]
  have hf : ∀ k : Int, 0 < k → Int.fdiv p.2 k = p.2 / k := fun k hk => Int.fdiv_eq_ediv_of_nonneg _ (by omega)
  have e1 : byN p.2 1 = .int .u8 (p.2 % 256) := by unfold byN; rw [hf 1 (by omega), IntKind.wrap_u8, Int.ediv_one]
  have e2 : byN p.2 256 = .int .u8 (p.2 / 256 % 256) := by unfold byN; rw [hf 256 (by omega), IntKind.wrap_u8]
  have e3 : byN p.2 65536 = .int .u8 (p.2 / 65536 % 256) := by unfold byN; rw [hf 65536 (by omega), IntKind.wrap_u8]
  have e4 : byN p.2 16777216 = .int .u8 (p.2 / 16777216 % 256) := by unfold byN; rw [hf 16777216 (by omega), IntKind.wrap_u8]
  rcases h.sz with hz | hz | hz
  · simp [encL, encB, hz, ho]
  · have := h.num2 hz
    simp [encL, encB, hz, ho, e1]; omega
  · simp [encL, encB, hz, ho, e1, e2, e3, e4]
theorem encB_len {p : In} (h : OkIn p) : ((encB p.1 p.2).length : Int) = sizeV p.1 := by
  rcases h.sz with hz | hz | hz <;> simp [encB, hz]
theorem encB_pos {p : In} (h : OkIn p) : 0 < (encB p.1 p.2).length := by
  have := encB_len h
  have := h.sz
  omega
theorem encB_byte {p : In} (h : OkIn p) : ∀ x ∈ encB p.1 p.2, 0 ≤ x ∧ x < 256 := by
  obtain ⟨n0, n1⟩ := h.num
  have h0 := h.lo
  have h1 := h.hi
  intro x hx
  rcases h.sz with hz | hz | hz
  · simp [encB, hz] at hx; omega
  · have := h.num2 hz
    simp [encB, hz] at hx; omega
  · simp [encB, hz] at hx; omega
theorem read_encB {p : In} (h : OkIn p) (rest : List Int) : readL (encB p.1 p.2 ++ rest) = (p.1, p.2, sizeV p.1, 0) := by
  obtain ⟨n0, n1⟩ := h.num
  rcases h.sz with hz | hz | hz
  · have e : encB p.1 p.2 = [p.1] := by simp [encB, hz]
    have h1 : ¬ ((1 : Int) > ((rest.length + 1 : Nat) : Int)) := by omega
    rw [e, h.num1 hz, hz]
    simp only [List.cons_append, List.nil_append, readL, hz, decide_eq_false h1]; rfl
  · have e : encB p.1 p.2 = [p.1, p.2] := by simp [encB, hz]
    have h1 : ¬ ((2 : Int) > (((p.2 :: rest).length + 1 : Nat) : Int)) := by simp only [List.length_cons]; omega
    rw [e, hz]
    simp only [List.cons_append, List.nil_append, readL, hz, decide_eq_false h1]; rfl
  · have e : encB p.1 p.2 = [p.1, p.2 % 256, p.2 / 256 % 256, p.2 / 65536 % 256, p.2 / 16777216 % 256] := by simp [encB, hz]
    have h1 : ¬ ((5 : Int) > (((p.2 % 256 :: p.2 / 256 % 256 :: p.2 / 65536 % 256 :: p.2 / 16777216 % 256 :: rest).length + 1 : Nat) : Int)) := by simp only [List.length_cons]; omega
    have hn : num4 (p.2 % 256) (p.2 / 256 % 256) (p.2 / 65536 % 256) (p.2 / 16777216 % 256) = p.2 := by unfold num4; omega
    rw [e, hz]
    simp only [List.cons_append, List.nil_append, readL, hz, decide_eq_false h1]
    show (p.1, num4 (p.2 % 256) (p.2 / 256 % 256) (p.2 / 65536 % 256) (p.2 / 16777216 % 256), (5 : Int), (0 : Int)) = _
    rw [hn]
theorem read_short {p : In} (h : OkIn p) {j : Nat} (hj : j < (encB p.1 p.2).length) : (readL ((encB p.1 p.2).take j)).2.2.2 = 10 := by
  have hl := encB_len h
  cases j with
  | zero => rfl
  | succ j =>
    obtain ⟨r, hr⟩ : ∃ r, encB p.1 p.2 = p.1 :: r := by
      rcases h.sz with hz | hz | hz
      · exact ⟨[], by simp [encB, hz]⟩
      · exact ⟨[p.2], by simp [encB, hz]⟩
      · exact ⟨_, by simp [encB, hz]; rfl⟩
    rw [hr] at hj hl ⊢
    simp only [List.length_cons] at hj hl
    rw [List.take_succ_cons]
    have h0 : (sizeV p.1 == 0) = false := by
      have := h.sz
      have : sizeV p.1 ≠ 0 := by omega
      simpa using this
    have h1 : sizeV p.1 > (((r.take j).length + 1 : Nat) : Int) := by
      rw [List.length_take]; omega
    simp only [readL, h0, decide_eq_true h1]
    rfl
def joinB (L : List In) : List Int := L.flatMap fun p => encB p.1 p.2
theorem joinB_cons (p : In) (L : List In) : joinB (p :: L) = encB p.1 p.2 ++ joinB L := by simp [joinB]
theorem joinB_app (L M : List In) : joinB (L ++ M) = joinB L ++ joinB M := by simp [joinB]
theorem joinL_B {L : List In} (h : ∀ p ∈ L, OkIn p) : joinL L = (joinB L).map (Value.int .u8) := by
  induction L with
  | nil => rfl
  | cons p L ih =>
    have := ih (fun q hq => h q (by simp [hq]))
    simp only [joinL, List.flatMap_cons] at this ⊢
    rw [this, joinB_cons, List.map_append, encB_eq (h p (by simp))]
theorem joinB_byte {L : List In} (h : ∀ p ∈ L, OkIn p) : ∀ x ∈ joinB L, 0 ≤ x ∧ x < 256 := by
  intro x hx
  obtain ⟨p, hp, hx⟩ := List.mem_flatMap.1 hx
  exact encB_byte (h p hp) x hx
theorem joinB_le (L : List In) : (joinB L).length ≤ 5 * L.length := by
  induction L with
  | nil => simp [joinB]
  | cons p L ih =>
    have : (encB p.1 p.2).length ≤ 5 := by unfold encB; cases sizeV p.1 == 1 <;> cases sizeV p.1 == 2 <;> simp
    rw [joinB_cons, List.length_append, List.length_cons]; omega
/-- What is written one behind the other is read again, with anything behind. -/
theorem dec_pre : ∀ (w : Nat) {L : List In} (h : ∀ p ∈ L, OkIn p) (rest : List Int), w ≤ L.length → Dec (joinB L ++ rest) (L.take w) (joinB (L.take w)).length := by
  intro w
  induction w with
  | zero => intro L h rest _; exact .nil
  | succ w ih =>
    intro L h rest hw
    have hd := ih h rest (by omega)
    have hp : OkIn L[w] := h _ (List.getElem_mem _)
    have hl := encB_len hp
    have e : L.take (w + 1) = L.take w ++ [L[w]] := List.take_succ_eq_append_getElem (by omega)
    have hs : joinB L = joinB (L.take w) ++ (encB L[w].1 L[w].2 ++ joinB (L.drop (w + 1))) := by
      rw [← joinB_cons, ← List.drop_eq_getElem_cons, ← joinB_app, List.take_append_drop]
    rw [e, joinB_app, List.length_append, show joinB [L[w]] = encB L[w].1 L[w].2 by simp [joinB]]
    refine .snoc hd (?_ : readL _ = (L[w].1, L[w].2, ((encB L[w].1 L[w].2).length : Int), 0)) (encB_pos hp)
    rw [hs, List.append_assoc, List.drop_left, List.append_assoc, read_encB hp, hl]
theorem Dec.det : ∀ (n : Nat) {l : List Int} {is js : List In} {e f : Nat}, Dec l is e → is.length = n → Dec l js f → js.length = n → is = js ∧ e = f := by
  intro n
  induction n with
  | zero =>
    intro l is js e f h1 hn1 h2 hn2
    cases h1 with
    | nil => cases h2 with
      | nil => exact ⟨rfl, rfl⟩
      | snoc h hd hk => simp at hn2
    | snoc h hd hk => simp at hn1
  | succ n ih =>
    intro l is js e f h1 hn1 h2 hn2
    cases h1 with
    | nil => simp at hn1
    | snoc h hd hk => cases h2 with
      | nil => simp at hn2
      | snoc h' hd' hk' =>
        obtain ⟨rfl, rfl⟩ := ih h (by simpa using hn1) h' (by simpa using hn2)
        rw [hd] at hd'
        simp only [Prod.mk.injEq] at hd'
        obtain ⟨rfl, rfl, hk2, _⟩ := hd'
        exact ⟨rfl, by omega⟩
theorem Dec.pre {l : List Int} {is : List In} {e : Nat} (h : Dec l is e) : ∀ n, n < is.length → ∃ js f, Dec l js f ∧ js.length = n ∧ (readL (l.drop f)).2.2.2 = 0 := by
  induction h with
  | nil => intro n hn; simp at hn
  | @snoc is e a N k h hd hk ih =>
    intro n hn
    by_cases hl : n < is.length
    · exact ih n hl
    · simp only [List.length_append, List.length_cons, List.length_nil] at hn
      exact ⟨is, e, h, by omega, by rw [hd]⟩
/-- The reading that goes as far as it can is one alone. -/
theorem Dec.max {l : List Int} {is js : List In} {e f : Nat} (h1 : Dec l is e) (m1 : (readL (l.drop e)).2.2.2 ≠ 0) (h2 : Dec l js f) (m2 : (readL (l.drop f)).2.2.2 ≠ 0) : is = js ∧ e = f := by
  rcases Nat.lt_trichotomy is.length js.length with h | h | h
  · obtain ⟨ks, g, h3, h4, h5⟩ := h2.pre _ h
    obtain ⟨rfl, rfl⟩ := Dec.det _ h3 h4 h1 rfl
    exact absurd h5 m1
  · exact Dec.det _ h1 h h2 rfl
  · obtain ⟨ks, g, h3, h4, h5⟩ := h1.pre _ h
    obtain ⟨rfl, rfl⟩ := Dec.det _ h3 h4 h2 rfl
    exact absurd h5 m2
/-- Code that is cut off is read up to its last whole instruction; what is left there ends too soon. -/
theorem cuts_law {L : List In} (h : ∀ p ∈ L, OkIn p) {k w : Nat} (hw : w ≤ L.length) (hk : k ≤ (joinB L).length) (h1 : (joinB (L.take w)).length ≤ k) (h2 : w < L.length → k < (joinB (L.take (w + 1))).length) {is : List In} {e : Nat} (hd : Dec ((joinB L).take k) is e) (hm : (readL (((joinB L).take k).drop e)).2.2.2 ≠ 0) :
    is = L.take w ∧ e = (joinB (L.take w)).length ∧ (readL (((joinB L).take k).drop e)).2.2.2 = 10 := by
  have hT : ∀ p ∈ L.take w, OkIn p := fun p hp => h p (List.mem_of_mem_take hp)
  have hs : joinB L = joinB (L.take w) ++ joinB (L.drop w) := by rw [← joinB_app, List.take_append_drop]
  have hl : (joinB L).take k = joinB (L.take w) ++ (joinB (L.drop w)).take (k - (joinB (L.take w)).length) := by
    rw [hs, List.take_append, List.take_of_length_le h1]
  have hlen : (L.take w).length = w := by simp; omega
  have hd2 : Dec ((joinB L).take k) (L.take w) (joinB (L.take w)).length := by
    have := dec_pre w hT ((joinB (L.drop w)).take (k - (joinB (L.take w)).length)) (by omega)
    rw [List.take_take, Nat.min_self] at this
    rw [hl]; exact this
  have h10 : (readL (((joinB L).take k).drop (joinB (L.take w)).length)).2.2.2 = 10 := by
    rw [hl, List.drop_left]
    rcases Nat.lt_or_ge w L.length with hwl | hwl
    · have hp : OkIn L[w] := h _ (List.getElem_mem _)
      have h3 := h2 hwl
      rw [List.take_succ_eq_append_getElem hwl, joinB_app, List.length_append, show joinB [L[w]] = encB L[w].1 L[w].2 by simp [joinB]] at h3
      rw [List.drop_eq_getElem_cons hwl, joinB_cons, List.take_append_of_le_length (by omega)]
      exact read_short hp (by omega)
    · rw [List.drop_of_length_le hwl]
      simp [joinB, readL]
  obtain ⟨rfl, rfl⟩ := Dec.max hd hm hd2 (by rw [h10]; simp)
  exact ⟨rfl, rfl, h10⟩
end Gc
end Go.Proofs.YtpfmmckbfejfnaaDoor
