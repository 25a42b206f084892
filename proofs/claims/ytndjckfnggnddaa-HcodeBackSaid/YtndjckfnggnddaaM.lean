/- A slice of bytes that came in, opened. -/
import Derived.Test.YtndjckfnggnddaaL
import Derived.ChangeSlices
namespace Go.Proofs.Ytndjckfnggnddaa
open Go.ChangeShapes Go.WideShapes Go.ChangeAt Go.RowKit Go.Deep
set_option linter.unusedVariables false
set_option linter.unusedSimpArgs false
theorem wf_u8 {n : Int} (h : (Lit.int .u8 n).wf = true) : isByte n := by
  simp [Lit.wf, IntKind.min, IntKind.max, IntKind.signed, IntKind.bits] at h
  unfold isByte; omega
theorem open_byts {H : Type} {enc : TypeId × Value → H} {W : World} {r : Reach} {b0 : Nat} {v : Value} {d : DataW H} {ps : List MemPlace} (hv : Value.okWide Try.prog W r b0 23 v) (h : DataW.Trod enc Try.prog W 0 (fun _ => true) true 23 v d ps) :
    ∃ (A : Option Addr) (cap : Nat) (bs : List Int), v = .slice A bs.length cap ∧ BytesIn W W.heap.size A bs ∧ bs.length ≤ cap ∧ cap ≤ maxLen := by
  obtain ⟨a0, len, cap, rfl⟩ := okWide_slice Try.underlying23 hv
  obtain ⟨fuel, hf⟩ := h
  rcases open_ints Try.underlying23 Try.underlying5 (by kernel_rfl) hf with ⟨hcs, hx⟩ | ⟨a, len', cap', zs, hcs, _, hl, hm, hlen, hx, hc, hwf⟩
  · simp [Value.cells] at hcs
    obtain ⟨rfl, rfl, rfl⟩ := hcs
    exact ⟨none, 0, [], rfl, ⟨fun x h => absurd h (by simp), fun h => absurd h (by simp)⟩, by simp, by unfold maxLen; omega⟩
  · simp [Value.cells] at hcs
    obtain ⟨rfl, rfl, rfl⟩ := hcs
    simp only [if_true] at hlen
    have hln : (zs.take len).length = len := by rw [List.length_take]; omega
    refine ⟨some a, cap, zs.take len, by rw [hln], ⟨fun x hx => wf_u8 (hwf x (List.mem_of_mem_take hx)), fun h0 => ?_⟩, by omega, hm⟩
    rw [hln] at h0
    have c1 := hc 0 (by omega)
    have hp := plain_of_cell (a := a) (by simpa [Addr.add] using c1)
    have hadd : ∀ k, a.add k = ⟨a.block, a.off + k, none⟩ := fun k => by
      rw [hp]; unfold Addr.add; split
      · rename_i h; subst h; rfl
      · rfl
    refine ⟨a.block, a.off, by rw [← hp], ?_, fun k x hk => ?_⟩
    · have := World.block_lt_of_cell? _ _ c1
      rwa [hadd] at this
    · rw [List.getElem?_take] at hk
      split at hk
      · have hkz := (List.getElem?_eq_some_iff.1 hk).1
        have := hc k hkz
        rw [hadd, List.getD_eq_getElem?_getD, hk] at this
        exact this
      · cases hk
end Go.Proofs.Ytndjckfnggnddaa
