/- The walks of Encode, Join, All, Cut. -/
import Derived.Test.YtndjckfnggnddaaD
import Derived.LoopTactic
import Derived.Deep.DeepMust
namespace Go.Proofs.Ytndjckfnggnddaa
open Go.RowKit
set_option linter.unusedVariables false
set_option linter.unusedSimpArgs false
/-- An instruction of the host, as numbers. -/
structure HI where
  op : Int
  rd : Int
  ra : Int
  rb : Int
  im : Int
def HI.cells (i : HI) : List Value := [.int .i64 i.op, .int .i64 i.rd, .int .i64 i.ra, .int .i64 i.rb, .int .u32 i.im]
def HI.right (i : HI) : Bool := rightB i.op i.rd i.ra i.rb i.im
def HI.enc (i : HI) : List Int := [i.op % 256, i.rd % 256, i.ra % 256, i.rb % 256, i.im % 256, i.im / 256 % 256, i.im / 65536 % 256, i.im / 16777216 % 256]
def HI.fits (i : HI) : Prop := 0 ≤ i.im ∧ i.im < 4294967296
/-- A slice of instructions, nil let in: what its cells hold. -/
def InsAt (w : World) (A : Option Addr) (l : List HI) : Prop :=
  0 < l.length → ∃ b off, A = some ⟨b, off, none⟩ ∧ b < w.heap.size ∧ ∀ k i, l[k]? = some i →
    w.cell? ⟨b, off + k * 5, none⟩ = some (.int .i64 i.op) ∧ w.cell? ⟨b, off + k * 5 + 1, none⟩ = some (.int .i64 i.rd) ∧ w.cell? ⟨b, off + k * 5 + 2, none⟩ = some (.int .i64 i.ra) ∧
    w.cell? ⟨b, off + k * 5 + 3, none⟩ = some (.int .i64 i.rb) ∧ w.cell? ⟨b, off + k * 5 + 4, none⟩ = some (.int .u32 i.im)
theorem InsAt.below {w w' : World} {A : Option Addr} {l : List HI} (h : InsAt w A l) (hb : Below w.heap.size w w') : InsAt w' A l := fun h0 => by
  obtain ⟨b, off, rfl, hlt, hc⟩ := h h0
  refine ⟨b, off, rfl, Nat.lt_of_lt_of_le hlt hb.size, fun k i hk => ?_⟩
  obtain ⟨c0, c1, c2, c3, c4⟩ := hc k i hk
  exact ⟨(hb.cell hlt).trans c0, (hb.cell hlt).trans c1, (hb.cell hlt).trans c2, (hb.cell hlt).trans c3, (hb.cell hlt).trans c4⟩
def encs (l : List HI) : List Int := l.flatMap HI.enc
theorem new_cells (w : World) (xs : List Value) (t : TypeId) : ∀ j u, xs[j]? = some u → (w.alloc (.cells xs.toArray t)).cell? ((⟨w.heap.size, 0, none⟩ : Addr).add j) = some u := by
  intro j u h
  have e : (⟨w.heap.size, 0, none⟩ : Addr).add j = ⟨w.heap.size, j, none⟩ := by
    unfold Addr.add; split
    · rename_i h0; subst h0; rfl
    · simp
  rw [e, World.cell?_alloc_new]
  simpa using h
theorem own_below {w w' : World} {base : Nat} {e : TypeId} {size : Nat} {v : Value} {n : Nat} {xs : List Value} (h : w.ownsRow base e size v n xs) (hb : Below w.heap.size w w') : w'.ownsRow base e size v n xs :=
  h.kept (row := none) ⟨hb.os, hb.tape, hb.output, hb.size, fun k hk _ => hb.block k hk⟩ (Classical.em _)
theorem encs_snoc (l : List HI) (k : Nat) (h : k < l.length) : encs (l.take (k + 1)) = encs (l.take k) ++ HI.enc l[k] := by
  unfold encs
  rw [List.take_succ_eq_append_getElem h, List.flatMap_append]
  simp
theorem below_own {w w1 w2 : World} {o : Obj} {e : TypeId} {size : Nat} {v : Value} {n : Nat} {xs : List Value} (hb : Below w.heap.size w w1) (ho : w1.ownsRow w.heap.size e size v n xs) (hg : (w1.alloc o).grownBy w2 v.ownBlock) : Below w.heap.size w w2 :=
  (below_alloc hb o).grown hg (by have := hb.size; simp; omega) (fun k hk => (ho.lt k hk).1)
theorem Try.info5 : (Try.prog.info? 5).map (fun i => (i.zero, i.size, i.bytes)) = some (some (.int .u8 0), 1, 1) := by kernel_rfl

set_option maxRecDepth 100000 in
set_option maxHeartbeats 1000000 in
theorem join_ok (A : Option Addr) (cap : Nat) (l : List HI) (w : World) (hl : l.length ≤ 1000) (hA : InsAt w A l) (hf : ∀ i ∈ l, HI.fits i) (hr : ∀ i ∈ l, HI.right i = true) :
    Calls Try.prog 6 #[.slice A l.length cap] w fun e w' => ∃ v, e = .returned (.tuple #[v, .int .i64 0]) ∧ w'.ownsRow w.heap.size 5 1 v (8 * l.length) ((encs l).map (Value.int .u8)) ∧ Below w.heap.size w w' := by
  obtain ⟨i0, hi, hz0, hz1, hz2⟩ := info_parts Try.info5
  go_enter Try.func6, Try.ntmps6
  go_wp2
  go_loopw [4, 9] (fun v o wr => ∃ k : Nat, k ≤ l.length ∧ o = .int .i64 k ∧ wr.ownsRow w.heap.size 5 1 v (8 * k) ((encs (l.take k)).map (Value.int .u8)) ∧ Below w.heap.size w wr) (fun _ o _ => l.length - (intOf o).toNat)
  case atStart => exact ⟨0, Nat.zero_le _, rfl, World.ownsRow_nil _ _ _ _, Below.refl _ _⟩
  case round =>
    obtain ⟨k, hk, rfl, hown, hb⟩ := hrel
    by_cases hlt : k < l.length
    · obtain ⟨b, off, rfl, hblt, hc⟩ := (hA.below hb) (by omega)
      obtain ⟨c0, c1, c2, c3, c4⟩ := hc k l[k] (List.getElem?_eq_getElem hlt)
      have hrk : rightB l[k].op l[k].rd l[k].ra l[k].rb l[k].im = true := hr l[k] (List.getElem_mem hlt)
      clear hc
      go_wp2_with (first | (go_at_call 12; refine (right_any _ _ _ _ _ _).mono ?_; rintro e w1 ⟨rfl, hb1⟩; obtain ⟨hc1, hf1⟩ := bcell hb1; have hz : wr.heap.size < w1.heap.size := (by have := hb1.size; simp at this; omega); have hown1 := own_below (hown.alloc _) hb1) |
        (at_builtin; go_must (refine wpList_append_own _ rfl _ _ 23 rfl w.heap.size 5 i0 (.int .u8 0) 1 1 Try.underlying23 hi hz0 hz1 hz2 rfl (by decide) _ _ _ rfl (hown1.alloc _) ⟨w1.heap.size, 0, none⟩ 8 8 ((HI.enc l[k]).map (Value.int .u8)) rfl rfl (new_cells w1 _ 5) (ints_oneCell _ _) (by unfold maxLen; omega) (by omega) (by have h1 := hb.size; have h2 := hb1.size; simp at h2 ⊢; omega) ?_); intro v' w2 hown2 hgrow _))
      have hbw : Below w.heap.size w w1 := hb.trans ((below_step hb1).mono hb.size)
      have hb2 := below_own hbw hown1 hgrow
      rw [← List.map_append, ← encs_snoc l k hlt, show 8 * k + 8 = 8 * (k + 1) from by omega] at hown2
      go_roundw
      case rel => exact ⟨k + 1, by omega, by go_num, hown2, hb2⟩
      case measure => simp [intOf]; omega
    · obtain rfl : k = l.length := by omega
      go_wp2
      go_ret2
      rw [List.take_length] at hown
      exact ⟨_, rfl, hown, hb⟩
end Go.Proofs.Ytndjckfnggnddaa
