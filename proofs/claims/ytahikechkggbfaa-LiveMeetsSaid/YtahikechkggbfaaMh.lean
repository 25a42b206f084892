/- LiveMeets: the call, at arguments that lie in memory. -/
import Derived.Test.YtahikechkggbfaaMg
import Derived.Below
namespace Go.Proofs.Ytahikechkggbfaa
open Go Go.Ev Go.RowKit
set_option linter.unusedVariables false
set_option linter.unusedSimpArgs false
set_option maxRecDepth 100000
namespace Me
theorem below_of {w w' : World} (q : Quiet w w') : Below w.heap.size w w' := ⟨q.os, q.tape, q.output, q.size, q.block⟩
theorem body5 : Try.f5.body = some b5 := by kernel_rfl
theorem cells_of {w : World} {b off : Nat} {x : Value} (h : w.cell? ⟨b, off, none⟩ = some x) : ∃ cs e fz, w.heap[b]? = some (.cells cs e fz) ∧ cs[off]? = some x := by
  unfold World.cell? at h
  split at h
  · rename_i cs e fz hc
    exact ⟨cs, e, fz, hc, by simpa using h⟩
  · cases h
theorem spans_plain {l : List (Int × Int)} {i : Nat} {x : Value} (h : (spans l)[i]? = some x) : plain x = true := by
  have hm := List.mem_of_getElem? h
  unfold spans at hm
  rw [List.mem_flatMap] at hm
  obtain ⟨p, _, hp⟩ := hm
  simp at hp
  rcases hp with rfl | rfl <;> rfl
theorem run5 {A : Option Addr} {cap : Nat} {l : List (Int × Int)} {n : Int} {w : World} {a : Option Addr} {m : Map} {H : Heap} (hwf : HWf H) (hr : Rep Try.prog m H w) (hro : ∀ b, ¬ H.wr b) (hv : VR m (.slice a l.length cap) (.slice A l.length cap))
    (hA : SlAt H a (spans l)) (hi : ∀ p ∈ l, isInt p.1 ∧ isInt p.2) (hn : isInt n) :
    Calls Try.prog 5 #[.slice A l.length cap, .int .i64 n] w fun e w' => e = .returned (.bool true) ∧ Below w.heap.size w w' := by
  have hN : (#[Value.slice a l.length cap, .int .i64 n]).size + (Try.f5.ntmps - (#[Value.slice a l.length cap, .int .i64 n]).size) = 145 := by kernel_rfl
  refine (calls_of_tw (c := b5) (args := #[.slice a l.length cap, .int .i64 n]) progOk1 fn5 body5 hwf hr hro (VRs.cons hv (VRs.cons (.same rfl) VRs.nil)) (fun w0 => ?_)).mono fun e w' h => ⟨h.1, below_of h.2⟩
  rw [hN]
  exact meets_tw hA hi hn
theorem meets_any (A : Option Addr) (cap : Nat) (l : List (Int × Int)) (n : Int) (w : World) (hsp : ∀ a, A = some a → a.spot = none) (hcap : cap < unk) (hA : CellsAt w w.heap.size A (spans l)) (hi : ∀ p ∈ l, isInt p.1 ∧ isInt p.2) (hn : isInt n) :
    Calls Try.prog 5 #[.slice A l.length cap, .int .i64 n] w fun e w' => e = .returned (.bool true) ∧ Below w.heap.size w w' := by
  cases A with
  | none =>
    refine run5 (a := none) (m := fun _ => none) (H := ⟨.lf, 0⟩) (fun b hb => by simp [Heap.get] at hb; cases b <;> simp [Tr.get] at hb) ⟨fun b L hb => (by cases hb), fun b L o hb => (by cases hb), fun b1 b2 L1 L2 hb => (by cases hb)⟩
      (fun b hb => by obtain ⟨o, ho, _⟩ := hb; simp [Heap.get] at ho; cases b <;> simp [Tr.get] at ho) (.same rfl) (fun h0 => ?_) hi hn
    obtain ⟨b, off, e, _⟩ := hA h0
    cases e
  | some ad =>
    obtain ⟨b, off, g⟩ := ad
    have hg : g = none := hsp _ rfl
    subst hg
    by_cases h0 : 0 < (spans l).length
    · obtain ⟨b', off', e, hb, hc⟩ := hA h0
      cases e
      have hc0 := hc 0 (spans l)[0] (List.getElem?_eq_getElem h0)
      obtain ⟨cs, e, fz, h1, h2⟩ := cells_of hc0
      have hall : ∀ (i : Nat) (x : Value), (spans l)[i]? = some x → cs[off + i]? = some x := by
        intro i x hx
        obtain ⟨cs', e', fz', h3, h4⟩ := cells_of (hc i x hx)
        rw [h1] at h3
        injection h3 with h3
        injection h3 with h5 h6 h7
        subst h5
        exact h4
      have hlen : off + (spans l).length ≤ cs.size := by
        have := hall ((spans l).length - 1) _ (List.getElem?_eq_getElem (by omega))
        have := (Array.getElem?_eq_some_iff.1 this).1
        omega
      obtain ⟨inf, hinf, hsz⟩ := progOk1.tab.size 38 2 size38
      have hget : ∀ x o, (⟨.nd .lf (some ⟨spans l, 38, true⟩) .lf, 1⟩ : Heap).get x = some o → x = 0 ∧ o = ⟨spans l, 38, true⟩ := by
        intro x o hx
        cases x with
        | zero => simp [Heap.get, Tr.get] at hx; exact ⟨rfl, hx.symm⟩
        | succ x =>
          simp only [Heap.get, Tr.get] at hx
          exfalso
          revert hx
          cases (x % 2).beq 0 <;> simp only [cond_true, cond_false] <;> cases x / 2 <;> simp [Tr.get]
      refine run5 (a := some ⟨0, 0, none⟩) (m := fun x => if x = 0 then some ⟨b, off, 0, 2⟩ else none) (H := ⟨.nd .lf (some ⟨spans l, 38, true⟩) .lf, 1⟩) (fun x hx => ?_) ⟨fun x L hx => ?_, fun x L o hx ho => ?_, fun b1 b2 L1 L2 k1 k2 k3 k4 k5 => ?_⟩
        (fun x hx => ?_) (.slice (L := ⟨b, off, 0, 2⟩) (by simp) (.inl ⟨hcap, rfl, rfl⟩)) (fun _ => ⟨0, 0, ⟨spans l, 38, true⟩, rfl, by show 0 < 1; omega, rfl, fun i x hx => by rw [Nat.zero_add]; exact hx⟩) hi hn
      · obtain ⟨o, ho⟩ := Option.isSome_iff_exists.1 hx
        rw [(hget x o ho).1]; show 0 < 1; omega
      · by_cases e : x = 0
        · rw [e]; show 0 < 1; omega
        · simp [e] at hx
      · obtain ⟨rfl, rfl⟩ := hget x o ho
        simp at hx
        subst hx
        exact ⟨cs, e, fz, h1, hlen, fun i x hx => ⟨x, hall i x hx, .same (spans_plain hx)⟩, fun h => by simp at h, inf, hinf, hsz⟩
      · obtain ⟨o, ho, hro⟩ := k3
        obtain ⟨_, rfl⟩ := hget b1 o ho
        cases hro
      · obtain ⟨o, ho, hro⟩ := hx
        obtain ⟨_, rfl⟩ := hget x o ho
        cases hro
    · have hl : l = [] := by
        cases l with
        | nil => rfl
        | cons p l => exact absurd (by simp [spans]) h0
      subst hl
      have hno : ∀ x, (⟨.lf, 1⟩ : Heap).get x = none := fun x => by cases x <;> rfl
      refine run5 (a := some ⟨0, 0, none⟩) (m := fun x => if x = 0 then some ⟨b, off, 0, 2⟩ else none) (H := ⟨.lf, 1⟩) (fun x hx => by rw [hno] at hx; cases hx) ⟨fun x L hx => ?_, fun x L o hx ho => (by rw [hno] at ho; cases ho), fun b1 b2 L1 L2 k1 k2 k3 => ?_⟩
        (fun x hx => ?_) (.slice (L := ⟨b, off, 0, 2⟩) (by simp) (.inl ⟨hcap, rfl, rfl⟩)) (fun h => absurd h h0) hi hn
      · by_cases e : x = 0
        · rw [e]; show 0 < 1; omega
        · simp [e] at hx
      · obtain ⟨o, ho, _⟩ := k3
        rw [hno] at ho; cases ho
      · obtain ⟨o, ho, _⟩ := hx
        rw [hno] at ho; cases ho
end Me
end Go.Proofs.Ytahikechkggbfaa
