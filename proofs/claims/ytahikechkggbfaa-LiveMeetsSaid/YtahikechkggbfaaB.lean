/- Slices that came in, by what their cells hold; the walks of depth and Pressure. -/
import Derived.Test.YtahikechkggbfaaA
namespace Go.Proofs.Ytahikechkggbfaa
open Go.RowKit
set_option linter.unusedVariables false
set_option linter.unusedSimpArgs false
/-- What the cells of a slice hold, nil let in; it lies below block B. -/
def CellsAt (w : World) (B : Nat) (A : Option Addr) (xs : List Value) : Prop :=
  0 < xs.length → ∃ b off, A = some ⟨b, off, none⟩ ∧ b < B ∧ ∀ k x, xs[k]? = some x → w.cell? ⟨b, off + k, none⟩ = some x
section
variable {w w' : World} {B B' : Nat} {A : Option Addr} {xs : List Value}
theorem CellsAt.below (h : CellsAt w B A xs) (hb : Below B w w') : CellsAt w' B A xs := fun h0 => by
  obtain ⟨b, off, rfl, hlt, hc⟩ := h h0
  exact ⟨b, off, rfl, hlt, fun k x hk => (hb.cell hlt).trans (hc k x hk)⟩
theorem CellsAt.more (h : CellsAt w B A xs) (hB : B ≤ B') : CellsAt w B' A xs := fun h0 => by
  obtain ⟨b, off, rfl, hlt, hc⟩ := h h0
  exact ⟨b, off, rfl, by omega, hc⟩
theorem CellsAt.up (h : CellsAt w w.heap.size A xs) (hb : Below w.heap.size w w') : CellsAt w' w'.heap.size A xs := (h.below hb).more hb.size
end
theorem flat_get {α : Type} (c : α → List Value) (s : Nat) (hc : ∀ a, (c a).length = s) (l : List α) : ∀ (k j : Nat) (hj : j < s), (l.flatMap c)[k * s + j]? = (l[k]?).bind (fun a => (c a)[j]?) := by
  induction l with
  | nil => intro k j hj; simp
  | cons a l ih =>
    intro k j hj
    rw [List.flatMap_cons]
    cases k with
    | zero => rw [List.getElem?_append_left (by rw [hc]; omega)]; simp
    | succ k =>
      rw [List.getElem?_append_right (by rw [hc, Nat.succ_mul]; omega), hc, show (k + 1) * s + j - s = k * s + j from by rw [Nat.succ_mul]; omega, ih k j hj]
      simp
theorem flat_length {α : Type} (c : α → List Value) (s : Nat) (hc : ∀ a, (c a).length = s) (l : List α) : (l.flatMap c).length = l.length * s := by
  induction l with
  | nil => simp
  | cons a l ih => rw [List.flatMap_cons, List.length_append, hc, ih]; simp [Nat.succ_mul]; omega
def ints (l : List Int) : List Value := l.map (.int .i64)
theorem ints_at {w : World} {B : Nat} {A : Option Addr} {l : List Int} (h : CellsAt w B A (ints l)) (k : Nat) (hk : k < l.length) :
    ∃ b off, A = some ⟨b, off, none⟩ ∧ b < B ∧ w.cell? ⟨b, off + k, none⟩ = some (.int .i64 l[k]) := by
  obtain ⟨b, off, rfl, hlt, hc⟩ := h (by unfold ints; simp; omega)
  exact ⟨b, off, rfl, hlt, hc k _ (by unfold ints; simp [hk])⟩
def ivs (l : List IV) : List Value := l.flatMap IV.cells
theorem ivs_at {w : World} {B : Nat} {A : Option Addr} {l : List IV} (h : CellsAt w B A (ivs l)) (k : Nat) (hk : k < l.length) :
    ∃ b off, A = some ⟨b, off, none⟩ ∧ b < B ∧ w.cell? ⟨b, off + k * 3, none⟩ = some (.int .i64 l[k].v) ∧ w.cell? ⟨b, off + k * 3 + 1, none⟩ = some (.int .i64 l[k].f) ∧ w.cell? ⟨b, off + k * 3 + 2, none⟩ = some (.int .i64 l[k].t) := by
  obtain ⟨b, off, rfl, hlt, hc⟩ := h (by unfold ivs; rw [flat_length _ 3 (fun _ => rfl)]; omega)
  have hg := fun j (hj : j < 3) => flat_get IV.cells 3 (fun _ => rfl) l k j hj
  simp only [List.getElem?_eq_getElem hk, Option.bind_some] at hg
  exact ⟨b, off, rfl, hlt, hc _ _ (hg 0 (by omega)), hc _ _ (hg 1 (by omega)), hc _ _ (hg 2 (by omega))⟩

def deepB (n : Int) : Bool := decide (0 ≤ n) && decide (n ≤ 16)
set_option maxRecDepth 100000 in
set_option maxHeartbeats 1000000 in
theorem depth_any (A : Option Addr) (cap : Nat) (l : List Int) (w : World) (hl : l.length ≤ 1000) (hA : CellsAt w w.heap.size A (ints l)) :
    Calls Try.prog 31 #[.slice A l.length cap] w fun e w' => e = .returned (.bool (l.all deepB)) ∧ w = w' := by
  generalize hq : l.all deepB = q
  have H := Lib.hid hq
  clear hq
  go_enter Try.func31, Try.ntmps31
  go_wp2
  go_loop [4, 7] (fun _ o => ∃ k : Nat, k ≤ l.length ∧ o = .int .i64 k ∧ (∀ x ∈ l.take k, deepB x = true)) (fun _ o => l.length - (intOf o).toNat)
  case atStart => exact ⟨0, Nat.zero_le _, rfl, by simp⟩
  case round =>
    obtain ⟨k, hk, rfl, hall⟩ := hrel
    by_cases hlt : k < l.length
    · obtain ⟨b, off, rfl, hblt, c0⟩ := ints_at hA k hlt
      have ht := List.take_succ_eq_append_getElem hlt
      have HT := Lib.hid ht
      have HA := Lib.hid hall
      clear ht hall
      by_cases h1 : 0 ≤ l[k] ∧ l[k] ≤ 16
      · obtain ⟨h1, h2⟩ := h1
        go_wp2
        go_round
        case rel => exact ⟨k + 1, by omega, by go_num, fun x hx => by
          rw [HT.out, List.mem_append] at hx
          rcases hx with hx | hx
          · exact HA.out x hx
          · obtain rfl : x = l[k] := by simpa using hx
            unfold deepB; simp; omega⟩
        case measure => simp [intOf]; omega
      · have hf : q = false := by
          rw [← H.out, List.all_eq_false]
          exact ⟨l[k], List.getElem_mem hlt, by unfold deepB; simp; omega⟩
        subst hf
        by_cases h3 : l[k] < 0
        · go_wp2
          go_ret
          exact ⟨rfl, rfl⟩
        · have h3' : 0 ≤ l[k] := by omega
          have h4 : 16 < l[k] := by omega
          go_wp2
          go_ret
          exact ⟨rfl, rfl⟩
    · obtain rfl : k = l.length := by omega
      have ht : q = true := by
        rw [← H.out, List.all_eq_true]
        rw [List.take_length] at hall
        exact hall
      subst ht
      clear hall
      go_wp2
      go_ret
      exact ⟨rfl, rfl⟩
/-- How many live at a place. -/
def cnt (l : List IV) (x : Int) : Int := ((l.filter fun i => atB i.f i.t x).length : Int)
theorem cnt_snoc (l : List IV) (i : IV) (x : Int) : cnt (l ++ [i]) x = cnt l x + if atB i.f i.t x = true then 1 else 0 := by
  unfold cnt; rw [List.filter_append]; cases h : atB i.f i.t x <;> simp [List.filter_cons, h]
theorem cnt_le (l : List IV) (x : Int) : 0 ≤ cnt l x ∧ cnt l x ≤ l.length := by
  unfold cnt; exact ⟨by omega, by have := List.length_filter_le (fun i : IV => atB i.f i.t x) l; omega⟩
/-- The most that live where one of these begins. -/
def most (l m : List IV) : Int := m.foldl (fun a i => max a (cnt l i.f)) 0
theorem most_snoc (l m : List IV) (i : IV) : most l (m ++ [i]) = max (most l m) (cnt l i.f) := by unfold most; rw [List.foldl_append]; rfl
set_option maxRecDepth 100000 in
set_option maxHeartbeats 1000000 in
theorem pressure_any (A : Option Addr) (cap : Nat) (l : List IV) (w : World) (hl : l.length ≤ 1000) (hA : CellsAt w w.heap.size A (ivs l)) :
    Calls Try.prog 15 #[.slice A l.length cap] w fun e w' => e = .returned (.int .i64 (most l l)) ∧ Below w.heap.size w w' := by
  generalize hq : most l l = q
  have H := Lib.hid hq
  clear hq
  go_enter Try.func15, Try.ntmps15
  go_wp2
  go_loopw [3, 11] (fun v o wr => ∃ (k : Nat) (m : Int), k ≤ l.length ∧ o = .int .i64 k ∧ v = .int .i64 m ∧ Hid (m = most l (l.take k)) ∧ 0 ≤ m ∧ m ≤ l.length ∧ Below w.heap.size w wr) (fun _ o _ => l.length - (intOf o).toNat)
  case atStart => exact ⟨0, 0, Nat.zero_le _, rfl, rfl, Lib.hid rfl, by omega, by omega, Below.refl _ _⟩
  case round =>
    obtain ⟨k, m, hk, rfl, rfl, hm, hm0, hm1, hb⟩ := hrel
    by_cases hlt : k < l.length
    · obtain ⟨b, off, rfl, hblt, c0, c1, c2⟩ := ivs_at (hA.up hb) k hlt
      obtain ⟨wo, rfl⟩ : ∃ wo : World, wo = wr := ⟨_, rfl⟩
      obtain ⟨x, hx⟩ : ∃ x, l[k].f = x := ⟨_, rfl⟩
      rw [hx] at c1
      have HX := Lib.hid hx
      clear hx
      have HAA := hA.up hb
      go_wp2
      go_loopw [6, 17] (fun v o wx => ∃ (j : Nat) (c : Int), j ≤ l.length ∧ o = .int .i64 j ∧ v = .int .i64 c ∧ Hid (c = cnt (l.take j) x) ∧ 0 ≤ c ∧ c ≤ j ∧ wx.cell? ⟨wo.heap.size, 1, none⟩ = some (.int .i64 x) ∧ wo.heap.size < wx.heap.size ∧ Below wo.heap.size wo wx) (fun _ o _ => l.length - (intOf o).toNat)
      case atStart => exact ⟨0, 0, Nat.zero_le _, rfl, rfl, Lib.hid rfl, by omega, by omega, by simp [go_sem], by simp, by repeat (first | exact Below.refl _ _ | refine below_alloc ?_ _ | refine Below.setCell ?_ (by simp) _)⟩
      case round =>
        obtain ⟨j, c, hj, rfl, rfl, hc, hc0, hc1, hbx, hsz, hbb⟩ := hrel
        by_cases hlt2 : j < l.length
        · obtain ⟨b2, off2, e2, hblt2, d0, d1, d2⟩ := ivs_at (HAA.up hbb) j hlt2
          cases e2
          have hcs := cnt_snoc (l.take j) l[j] x
          rw [← List.take_succ_eq_append_getElem hlt2] at hcs
          have HC := Lib.hid hcs
          clear hcs
          rcases Bool.eq_false_or_eq_true (atB l[j].f l[j].t x) with hat | hat
          all_goals
            have HT := Lib.hid hat
            go_wp2_with (go_at_call 22; refine (at_any _ _ _ _ _).mono ?_; rintro e w1 ⟨rfl, hb1⟩; obtain ⟨hc1', hf1⟩ := bcell hb1; have hz : wr.heap.size < w1.heap.size := (by have := hb1.size; simp at this; omega))
            have hbw : Below wo.heap.size wo w1 := hbb.trans ((below_step hb1).mono hbb.size)
            go_roundw
            case rel => exact ⟨j + 1, _, by omega, by go_num, rfl, Lib.hid (by rw [HC.out, HT.out, hc.out]; simp), by omega, by omega, by simp [hc1', hbx, go_sem, hsz], by omega, hbw⟩
            case measure => simp [intOf]; omega
        · obtain rfl : j = l.length := by omega
          go_wp2
          have hms := most_snoc l (l.take k) l[k]
          rw [← List.take_succ_eq_append_getElem hlt, HX.out] at hms
          have hce := hc.out
          rw [List.take_length] at hce
          go_roundw
          case rel => exact ⟨k + 1, max m c, by omega, by go_num, by go_num, Lib.hid (by rw [hms, ← hm.out, ← hce]), by omega, by omega, hb.trans (hbb.mono hb.size)⟩
          case measure => simp [intOf]; omega
    · obtain rfl : k = l.length := by omega
      have hme := hm.out
      rw [List.take_length] at hme
      go_wp2
      go_ret
      exact ⟨ret_one (by rw [hme, H.out]), hb⟩
end Go.Proofs.Ytahikechkggbfaa
