/- Chapter 4: the machine in memory. -/
import Derived.Test.YtjhijpfbokklcaaPe
namespace Go.Proofs.Ytjhijpfbokklcaa
open Go Go.Ev Go.RowKit
set_option linter.unusedVariables false
set_option linter.unusedSimpArgs false
set_option maxRecDepth 100000
namespace Hm
theorem ml {R : List Int} (h : R.length = 16) {a b c : Value} : (R.map (Value.int .u64) ++ [a, b, c]).length = 19 := by simp [h]
theorem mc_r {R : List Int} {l : List Value} {k : Nat} {x : Int} (h : R[k]? = some x) : (R.map (Value.int .u64) ++ l)[0 + k * 1]? = some (.int .u64 x) := by
  have hk : k < R.length := (List.getElem?_eq_some_iff.1 h).1
  rw [show 0 + k * 1 = k by omega, List.getElem?_append_left (by simpa using hk), List.getElem?_map, h]; rfl
theorem mc_16 {R : List Int} (h : R.length = 16) {a b c : Value} : (R.map (Value.int .u64) ++ [a, b, c])[16]? = some a := by
  rw [List.getElem?_append_right (by simp [h])]; simp [h]
theorem mc_17 {R : List Int} (h : R.length = 16) {a b c : Value} : (R.map (Value.int .u64) ++ [a, b, c])[17]? = some b := by
  rw [List.getElem?_append_right (by simp [h])]; simp [h]
theorem mc_18 {R : List Int} (h : R.length = 16) {a b c : Value} : (R.map (Value.int .u64) ++ [a, b, c])[18]? = some c := by
  rw [List.getElem?_append_right (by simp [h])]; simp [h]
theorem ms_r {R : List Int} (h : R.length = 16) {l : List Value} {k : Nat} (hk : k < 16) {x : Int} : (R.map (Value.int .u64) ++ l).set (0 + k * 1) (.int .u64 x) = (R.set k x).map (Value.int .u64) ++ l := by
  rw [show 0 + k * 1 = k by omega, List.set_append_left _ _ (by simpa [h] using hk), List.map_set]
theorem ms_17 {R : List Int} (h : R.length = 16) {a b c x : Value} : (R.map (Value.int .u64) ++ [a, b, c]).set 17 x = R.map (Value.int .u64) ++ [a, x, c] := by
  rw [List.set_append_right _ _ (by simp [h])]; simp [h]
theorem ms_18 {R : List Int} (h : R.length = 16) {a b c x : Value} : (R.map (Value.int .u64) ++ [a, b, c]).set 18 x = R.map (Value.int .u64) ++ [a, b, x] := by
  rw [List.set_append_right _ _ (by simp [h])]; simp [h]
theorem mw_r {Wd : List Int} {k : Nat} {x : Int} (h : Wd[k]? = some x) : (Wd.map (Value.int .u32))[0 + k * 1]? = some (.int .u32 x) := by
  rw [show 0 + k * 1 = k by omega, List.getElem?_map, h]; rfl
theorem mw_s {Wd : List Int} (k : Nat) (x : Int) : (Wd.map (Value.int .u32)).set (0 + k * 1) (.int .u32 x) = (Wd.set k x).map (Value.int .u32) := by
  rw [show 0 + k * 1 = k by omega, List.map_set]
theorem insC_im {is : List Ins5} {k : Nat} {i : Ins5} (h : is[k]? = some i) : (insC is)[0 + k * 5 + 4]? = some (.int .u32 i.2.2.2.2) := by
  have := insC_at is k i h
  have h2 := congrArg (fun l => l[4]?) this
  simp only [List.getElem?_take, List.getElem?_drop] at h2
  simpa [insCs] using h2
structure Mach where
  R : List Int
  Wd : List Int
  C : List Ins5
  pc : Int
/-- The machine's cells. -/
def macC (R : List Int) (W n : Nat) (cp : Value) (pc : Int) : List Value := R.map (Value.int .u64) ++ [.slice (some ⟨W, 0, none⟩) n n, cp, .int .i64 pc]
/-- What a call leaves of a machine, and of the memory beside it. -/
structure MTo (H H' : Heap) (ty : TypeId) (M W n : Nat) (cp : Value) (R Wd : List Int) (pc : Int) : Prop where
  hn : H.n ≤ H'.n
  gM : H'.get M = some ⟨macC R W n cp pc, ty, false⟩
  gW : H'.get W = some ⟨Wd.map (Value.int .u32), 30, false⟩
  fr : ∀ b, b < H.n → b ≠ M → b ≠ W → H'.get b = H.get b
end Hm
end Go.Proofs.Ytjhijpfbokklcaa
