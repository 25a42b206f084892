/- Plain facts on instructions and bytes: what is written is read again; what is made is right. -/
import Derived.Test.YtndjckfnggnddaaG
namespace Go.Proofs.Ytndjckfnggnddaa
open Go.RowKit
set_option linter.unusedVariables false
set_option linter.unusedSimpArgs false
theorem u32_join (x y : Int) (i : Nat) (hi : i ≤ 32) (h0 : 0 ≤ x) (h1 : x < 4294967296) (hx : x % 2 ^ i = 0) (h2 : 0 ≤ y) (h3 : y < 2 ^ i) (h4 : y < 4294967296) : bits .or .u32 x y = x + y :=
  bits_join .u32 32 (by decide) (fun n h0 h1 => by rw [IntKind.wrap_u32]; omega) i x y h0 hx (by omega) h2 h3 (by omega)
theorem or_comm (x y : Int) : bits .or .u32 x y = bits .or .u32 y x := by
  show IntKind.u32.wrap ((BitVec.ofInt 32 x ||| BitVec.ofInt 32 y).toNat : Int) = IntKind.u32.wrap ((BitVec.ofInt 32 y ||| BitVec.ofInt 32 x).toNat : Int)
  rw [BitVec.or_comm]
theorem imF_eq (a b c d : Int) (ha : isByte a) (hb : isByte b) (hc : isByte c) (hd : isByte d) : imF a b c d = a + b * 256 + c * 65536 + d * 16777216 := by
  obtain ⟨a0, a1⟩ := ha
  obtain ⟨b0, b1⟩ := hb
  obtain ⟨c0, c1⟩ := hc
  obtain ⟨d0, d1⟩ := hd
  unfold imF
  rw [or_comm a, u32_join (b * 256) a 8 (by omega) (by omega) (by omega) (by omega) (by omega) (by omega) (by omega),
    or_comm _ (c * 65536), u32_join (c * 65536) (b * 256 + a) 16 (by omega) (by omega) (by omega) (by omega) (by omega) (by omega) (by omega),
    or_comm _ (d * 16777216), u32_join (d * 16777216) _ 24 (by omega) (by omega) (by omega) (by omega) (by omega) (by omega) (by omega)]
  omega
/-- An instruction as made makes it. -/
def madeH (i : HI) : HI := ⟨i.op % 20, sel (rdB (i.op % 20)) (i.rd % 16), sel (raB (i.op % 20)) (i.ra % 16), sel (rbB (i.op % 20)) (i.rb % 16), sel (imB (i.op % 20)) i.im⟩
theorem sel_sel (b : Bool) (x : Int) : sel b (sel b x) = sel b x := by unfold sel; cases b <;> simp
theorem sel_reg (b : Bool) (x : Int) : regB (sel b (x % 16)) = true := by unfold sel regB; cases b <;> simp <;> omega
theorem made_right (i : HI) : HI.right (madeH i) = true := by
  show rightB _ _ _ _ _ = true
  unfold rightB madeH
  simp only [sel_sel, sel_reg, Bool.and_true, and_self, decide_true]
  unfold okB; simp; omega
theorem made_fits (i : HI) (h : HI.fits i) : HI.fits (madeH i) := by
  obtain ⟨h0, h1⟩ := h
  unfold HI.fits madeH sel
  simp only
  split <;> omega
theorem enc_byte (i : HI) : ∀ x ∈ HI.enc i, isByte x := by
  intro x hx
  unfold HI.enc at hx
  unfold isByte
  simp at hx
  rcases hx with rfl | rfl | rfl | rfl | rfl | rfl | rfl | rfl <;> omega
theorem encs_byte (l : List HI) : ∀ x ∈ encs l, isByte x := by
  intro x hx
  unfold encs at hx
  rw [List.mem_flatMap] at hx
  obtain ⟨i, _, h⟩ := hx
  exact enc_byte i x h
theorem encs_length (l : List HI) : (encs l).length = 8 * l.length := by
  induction l with
  | nil => rfl
  | cons a l ih => unfold encs at *; rw [List.flatMap_cons, List.length_append, ih]; simp [HI.enc]; omega
theorem encs_get (l : List HI) : ∀ (j k : Nat) (hj : j < l.length) (hk : k < 8), (encs l)[8 * j + k]? = (HI.enc l[j])[k]? := by
  induction l with
  | nil => intro j k hj; simp at hj
  | cons a l ih =>
    intro j k hj hk
    have e : encs (a :: l) = HI.enc a ++ encs l := by unfold encs; rw [List.flatMap_cons]
    have hl : (HI.enc a).length = 8 := rfl
    rw [e]
    cases j with
    | zero => rw [List.getElem?_append_left (by omega)]; simp
    | succ j =>
      rw [List.getElem?_append_right (by omega), hl]
      have := ih j k (by simp at hj; omega) hk
      rw [show 8 * (j + 1) + k - 8 = 8 * j + k from by omega, this]
      rfl
theorem right_rng {i : HI} (h : HI.right i = true) : 0 ≤ i.op ∧ i.op ≤ 19 ∧ 0 ≤ i.rd ∧ i.rd < 16 ∧ 0 ≤ i.ra ∧ i.ra < 16 ∧ 0 ≤ i.rb ∧ i.rb < 16 := by
  have h' : rightB i.op i.rd i.ra i.rb i.im = true := h
  unfold rightB at h'
  simp only [Bool.and_eq_true] at h'
  obtain ⟨h1, _, h3, h4, h5⟩ := h'
  unfold okB at h1
  unfold regB at h3 h4 h5
  simp only [decide_eq_true_eq] at h1 h3 h4 h5
  omega
/-- What is written is read again. -/
theorem dec_encs (l : List HI) (hf : ∀ i ∈ l, HI.fits i) (hr : ∀ i ∈ l, HI.right i = true) (n j : Nat) (hj : 8 * j + 8 ≤ n) (hn : n ≤ 8 * l.length) : ∃ h : j < l.length, dec ((encs l).take n) j = l[j] := by
  have hjl : j < l.length := by omega
  refine ⟨hjl, ?_⟩
  have hb : ∀ k, k < 8 → byteAt ((encs l).take n) (8 * j + k) = (HI.enc l[j]).getD k 0 := by
    intro k hk
    unfold byteAt
    rw [List.getD_eq_getElem?_getD, List.getElem?_take, if_pos (by omega), encs_get l j k hjl hk, List.getD_eq_getElem?_getD]
  obtain ⟨f0, f1⟩ := hf l[j] (List.getElem_mem hjl)
  obtain ⟨r0, r1, r2, r3, r4, r5, r6, r7⟩ := right_rng (hr l[j] (List.getElem_mem hjl))
  have e0 := hb 0 (by omega)
  rw [Nat.add_zero] at e0
  unfold dec
  rw [e0, hb 1 (by omega), hb 2 (by omega), hb 3 (by omega), hb 4 (by omega), hb 5 (by omega), hb 6 (by omega), hb 7 (by omega)]
  generalize l[j] = i at *
  show (⟨i.op % 256, i.rd % 256, i.ra % 256, i.rb % 256, imF (i.im % 256) (i.im / 256 % 256) (i.im / 65536 % 256) (i.im / 16777216 % 256)⟩ : HI) = i
  rw [imF_eq _ _ _ _ (by unfold isByte; omega) (by unfold isByte; omega) (by unfold isByte; omega) (by unfold isByte; omega)]
  obtain ⟨op, rd, ra, rb, im⟩ := i
  simp only at *
  congr 1 <;> omega
end Go.Proofs.Ytndjckfnggnddaa
