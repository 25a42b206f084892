/- HmachStands: the call, at arguments that lie in memory. -/
import Derived.Test.YtjhijpfbokklcaaHg
import Derived.Below
namespace Go.Proofs.Ytjhijpfbokklcaa
open Go Go.Ev Go.RowKit
set_option linter.unusedVariables false
set_option linter.unusedSimpArgs false
set_option maxRecDepth 100000
namespace Hs
theorem below_of {w w' : World} (q : Quiet w w') : Below w.heap.size w w' := ⟨q.os, q.tape, q.output, q.size, q.block⟩
/-- A row of numbers in the world. -/
def NumsAt (w : World) (A : Option Addr) (R : List Int) : Prop := 0 < R.length → ∃ b off, A = some ⟨b, off, none⟩ ∧ ∀ (k : Nat) (x : Int), R[k]? = some x → w.cell? ⟨b, off + k, none⟩ = some (.int .u64 x)
theorem cells_of {w : World} {b off : Nat} {x : Value} (h : w.cell? ⟨b, off, none⟩ = some x) : ∃ cs e fz, w.heap[b]? = some (.cells cs e fz) ∧ cs[off]? = some x := by
  unfold World.cell? at h
  split at h
  · rename_i cs e fz hc
    exact ⟨cs, e, fz, hc, by simpa using h⟩
  · cases h
theorem H0_get {t0 : Option Ob} {x : Nat} {o : Ob} (h : (H0 t0).get x = some o) : x = 0 ∧ t0 = some o := by
  cases x with
  | zero => exact ⟨rfl, h⟩
  | succ x =>
    exfalso
    simp only [Heap.get, Tr.get] at h
    revert h
    cases (x % 2).beq 0 <;> simp only [cond_true, cond_false] <;> cases x / 2 <;> simp [Tr.get]
theorem run5 {A : Option Addr} {cap : Nat} {R : List Int} {n imm : Int} {w : World} {a : Option Addr} {m : Map} {t0 : Option Ob} (hr : Rep Try.prog m (H0 t0) w) (hro : ∀ o, t0 = some o → o.ro = true) (hv : VR m (.slice a R.length cap) (.slice A R.length cap))
    (hA : RowAt t0 a R) (hn : isI n) (hi0 : 0 ≤ imm) (hi1 : imm < 4294967296) :
    Calls Try.prog 5 #[.int .i64 n, .slice A R.length cap, .int .u32 imm] w fun e w' => e = .returned (.bool true) ∧ Below w.heap.size w w' := by
  have hN : (#[Value.int .i64 n, .slice a R.length cap, .int .u32 imm]).size + (Try.f5.ntmps - (#[Value.int .i64 n, .slice a R.length cap, .int .u32 imm]).size) = 102 := by kernel_rfl
  have hwf : HWf (H0 t0) := fun b hb => by
    obtain ⟨o, ho⟩ := Option.isSome_iff_exists.1 hb
    rw [(H0_get ho).1]; show 0 < 1; omega
  have hnw : ∀ b, ¬ (H0 t0).wr b := fun b hb => by
    obtain ⟨o, ho, h2⟩ := hb
    rw [hro o (H0_get ho).2] at h2; cases h2
  refine (calls_of_tw (c := f5b) (args := #[.int .i64 n, .slice a R.length cap, .int .u32 imm]) progOk4 fn5 f5_body hwf hr hnw (VRs.cons (.same rfl) (VRs.cons hv (VRs.cons (.same rfl) VRs.nil))) (fun w0 => ?_)).mono fun e w' h => ⟨h.1, below_of h.2⟩
  rw [hN]
  exact stands_tw hn hi0 hi1 hA
theorem stands_any (A : Option Addr) (cap : Nat) (R : List Int) (n imm : Int) (w : World) (hsp : ∀ a, A = some a → a.spot = none) (hcap : cap < unk) (hA : NumsAt w A R) (hn : isI n) (hi0 : 0 ≤ imm) (hi1 : imm < 4294967296) :
    Calls Try.prog 5 #[.int .i64 n, .slice A R.length cap, .int .u32 imm] w fun e w' => e = .returned (.bool true) ∧ Below w.heap.size w w' := by
  cases A with
  | none =>
    refine run5 (a := none) (m := fun _ => none) (t0 := none) ⟨fun b L hb => (by cases hb), fun b L o hb => (by cases hb), fun b1 b2 L1 L2 hb => (by cases hb)⟩ (fun o h => by cases h) (.same rfl) (fun h0 => ?_) hn hi0 hi1
    obtain ⟨b, off, e, _⟩ := hA h0
    cases e
  | some ad =>
    obtain ⟨b, off, g⟩ := ad
    have hg : g = none := hsp _ rfl
    subst hg
    by_cases h0 : 0 < R.length
    · obtain ⟨b', off', e, hc⟩ := hA h0
      cases e
      have hc0 := hc 0 R[0] (List.getElem?_eq_getElem h0)
      obtain ⟨cs, e, fz, h1, h2⟩ := cells_of hc0
      have hall : ∀ (i : Nat) (x : Int), R[i]? = some x → cs[off + i]? = some (.int .u64 x) := by
        intro i x hx
        obtain ⟨cs', e', fz', h3, h4⟩ := cells_of (hc i x hx)
        rw [h1] at h3
        injection h3 with h3
        injection h3 with h5 h6 h7
        subst h5
        exact h4
      have hlen : off + R.length ≤ cs.size := by
        have := hall (R.length - 1) _ (List.getElem?_eq_getElem (by omega))
        have := (Array.getElem?_eq_some_iff.1 this).1
        omega
      obtain ⟨inf, hinf, hsz⟩ := progOk4.tab.size 42 1 size42
      refine run5 (a := some ⟨0, 0, none⟩) (m := fun x => if x = 0 then some ⟨b, off, 0, 1⟩ else none) (t0 := some ⟨R.map (Value.int .u64), 42, true⟩) ⟨fun x L hx => ?_, fun x L o hx ho => ?_, fun b1 b2 L1 L2 k1 k2 k3 k4 k5 => ?_⟩
        (fun o h => by cases h; rfl) (.slice (L := ⟨b, off, 0, 1⟩) (by simp) (.inl ⟨hcap, rfl, rfl⟩)) (fun _ => ⟨_, 0, rfl, rfl, fun i x hx => by rw [Nat.zero_add, List.getElem?_map, hx]; rfl⟩) hn hi0 hi1
      · by_cases e : x = 0
        · rw [e]; show 0 < 1; omega
        · simp [e] at hx
      · obtain ⟨rfl, ho⟩ := H0_get ho
        cases ho
        simp at hx
        subst hx
        refine ⟨cs, e, fz, h1, by simpa using hlen, fun i x hx => ?_, fun h => by simp at h, inf, hinf, hsz⟩
        rw [List.getElem?_map] at hx
        cases hr : R[i]? with
        | none => rw [hr] at hx; cases hx
        | some y => rw [hr] at hx; cases hx; exact ⟨_, hall i y hr, .same rfl⟩
      · obtain ⟨o, ho, hro⟩ := k3
        have := (H0_get ho).2
        cases this
        cases hro
    · have hl : R = [] := List.length_eq_zero_iff.1 (by omega)
      subst hl
      refine run5 (a := some ⟨0, 0, none⟩) (m := fun x => if x = 0 then some ⟨b, off, 0, 1⟩ else none) (t0 := none) ⟨fun x L hx => ?_, fun x L o hx ho => (by have := (H0_get ho).2; cases this), fun b1 b2 L1 L2 k1 k2 k3 => ?_⟩
        (fun o h => by cases h) (.slice (L := ⟨b, off, 0, 1⟩) (by simp) (.inl ⟨hcap, rfl, rfl⟩)) (fun h => absurd h h0) hn hi0 hi1
      · by_cases e : x = 0
        · rw [e]; show 0 < 1; omega
        · simp [e] at hx
      · obtain ⟨o, ho, _⟩ := k3
        have := (H0_get ho).2
        cases this
end Hs
end Go.Proofs.Ytjhijpfbokklcaa
