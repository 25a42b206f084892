/- The walk of the document's Pressure; the most press where one begins. -/
import Derived.Test.YtahikechkggbfaaB
namespace Go.Proofs.Ytahikechkggbfaa
open Go.RowKit
set_option linter.unusedVariables false
set_option linter.unusedSimpArgs false
def rmost (l m : List IV) : Int := m.foldl (fun a i => max (max a (cnt l i.f)) (cnt l i.t)) 0
theorem rmost_snoc (l m : List IV) (i : IV) : rmost l (m ++ [i]) = max (max (rmost l m) (cnt l i.f)) (cnt l i.t) := by unfold rmost; rw [List.foldl_append]; rfl
def mid (m a b : Int) (j : Nat) : Int := if j = 0 then m else if j = 1 then max m a else max (max m a) b
set_option maxRecDepth 100000 in
set_option maxHeartbeats 1000000 in
theorem rpressure_any (A : Option Addr) (cap : Nat) (l : List IV) (w : World) (hl : l.length ≤ 1000) (hA : CellsAt w w.heap.size A (ivs l)) :
    Calls Try.prog 16 #[.slice A l.length cap] w fun e w' => e = .returned (.int .i64 (rmost l l)) ∧ Below w.heap.size w w' := by
  generalize hq : rmost l l = q
  have H := Lib.hid hq
  clear hq
  go_enter Try.func16, Try.ntmps16
  go_wp2
  go_loopw [3, 4] (fun v o wr => ∃ (k : Nat) (m : Int), k ≤ l.length ∧ o = .int .i64 k ∧ v = .int .i64 m ∧ Hid (m = rmost l (l.take k)) ∧ 0 ≤ m ∧ m ≤ l.length ∧ Below w.heap.size w wr) (fun _ o _ => l.length - (intOf o).toNat)
  case atStart => exact ⟨0, 0, Nat.zero_le _, rfl, rfl, Lib.hid rfl, by omega, by omega, Below.refl _ _⟩
  case round =>
    obtain ⟨k, m, hk, rfl, rfl, hm, hm0, hm1, hb⟩ := hrel
    by_cases hlt : k < l.length
    · obtain ⟨b, off, rfl, hblt, c0, c1, c2⟩ := ivs_at (hA.up hb) k hlt
      obtain ⟨wo, rfl⟩ : ∃ wo : World, wo = wr := ⟨_, rfl⟩
      obtain ⟨x, hx⟩ : ∃ x, l[k].f = x := ⟨_, rfl⟩
      obtain ⟨y, hy⟩ : ∃ y, l[k].t = y := ⟨_, rfl⟩
      rw [hx] at c1
      rw [hy] at c2
      have HX := Lib.hid hx
      have HY := Lib.hid hy
      clear hx hy
      have HAA := hA.up hb
      go_wp2
      go_region
      go_wp2
      have hcx := cnt_le l x
      have hcy := cnt_le l y
      go_loopw [3, 27] (fun v o wx => ∃ (j : Nat) (c : Int), j ≤ 2 ∧ o = .int .i64 j ∧ v = .int .i64 c ∧ Hid (c = mid m (cnt l x) (cnt l y) j) ∧ 0 ≤ c ∧ c ≤ l.length ∧ wx.cell? ⟨wo.heap.size, 0, none⟩ = some (.int .i64 x) ∧ wx.cell? ⟨wo.heap.size, 1, none⟩ = some (.int .i64 y) ∧ Below wo.heap.size wo wx) (fun _ o _ => 2 - (intOf o).toNat)
      case atStart => exact ⟨0, m, by omega, rfl, rfl, Lib.hid rfl, by omega, by omega, by simp [go_sem], by simp [go_sem], by repeat (first | exact Below.refl _ _ | refine Below.drew ?_ | refine below_alloc ?_ _ | refine Below.setCell ?_ (by simp) _)⟩
      case round =>
        obtain ⟨j, c, hj, rfl, rfl, hc, hc0, hc1, hbx, hby, hbb⟩ := hrel
        have hAB := hA.up (hb.trans (hbb.mono hb.size))
        by_cases hlt2 : j < 2
        · obtain ⟨z, hz, hzz⟩ : ∃ z, wr.cell? ⟨wo.heap.size, j, none⟩ = some (.int .i64 z) ∧ mid m (cnt l x) (cnt l y) (j + 1) = max (mid m (cnt l x) (cnt l y) j) (cnt l z) := by
            rcases (by omega : j = 0 ∨ j = 1) with rfl | rfl
            · exact ⟨x, hbx, rfl⟩
            · exact ⟨y, hby, rfl⟩
          have HZ := Lib.hid hzz
          have hcz := cnt_le l z
          clear hzz
          go_wp2
          go_loop [7, 8] (fun v o => ∃ i : Nat, i ≤ l.length ∧ o = .int .i64 i ∧ v = .int .i64 (cnt (l.take i) z)) (fun _ o => l.length - (intOf o).toNat)
          case atStart => exact ⟨0, by omega, rfl, rfl⟩
          case round =>
            obtain ⟨i, hi, rfl, rfl⟩ := hrel
            have hd := cnt_le (l.take i) z
            rw [List.length_take] at hd
            by_cases hlt3 : i < l.length
            · obtain ⟨b2, off2, e2, hblt2, d0, d1, d2⟩ := ivs_at hAB i hlt3
              cases e2
              have hcs := cnt_snoc (l.take i) l[i] z
              rw [← List.take_succ_eq_append_getElem hlt3] at hcs
              have HC := Lib.hid hcs
              clear hcs
              generalize l[i].f = f at *
              generalize l[i].t = t at *
              have fin1 : Hid (atB f t z = true → cnt (l.take (i + 1)) z = cnt (l.take i) z + 1) := fun h => by rw [HC.out, if_pos h]
              have fin0 : Hid (atB f t z = false → cnt (l.take (i + 1)) z = cnt (l.take i) z) := fun h => by rw [HC.out, if_neg (by rw [h]; simp)]; omega
              by_cases h1 : f ≤ z
              · by_cases h2 : z < t
                · have HT : Hid (atB f t z = true) := by unfold Hid atB; simp; omega
                  go_wp2
                  go_round
                  case rel => exact ⟨i + 1, by omega, by go_num, by rw [fin1.out HT.out]⟩
                  case measure => simp [intOf]; omega
                · have h2' : t ≤ z := by omega
                  by_cases h3 : f = z
                  · subst h3
                    by_cases h4 : t = f
                    · subst h4
                      have HT : Hid (atB t t t = true) := by unfold Hid atB; simp
                      go_wp2
                      go_round
                      case rel => exact ⟨i + 1, by omega, by go_num, by rw [fin1.out HT.out]⟩
                      case measure => simp [intOf]; omega
                    · have HT : Hid (atB f t f = false) := by unfold Hid atB; simp; omega
                      have h4' : (t == f) = false := by simpa using h4
                      go_wp2
                      go_round
                      case rel => exact ⟨i + 1, by omega, by go_num, by rw [fin0.out HT.out]⟩
                      case measure => simp [intOf]; omega
                  · have HT : Hid (atB f t z = false) := by unfold Hid atB; simp; omega
                    have h3' : (f == z) = false := by simpa using h3
                    go_wp2
                    go_round
                    case rel => exact ⟨i + 1, by omega, by go_num, by rw [fin0.out HT.out]⟩
                    case measure => simp [intOf]; omega
              · have h1' : z < f := by omega
                have HT : Hid (atB f t z = false) := by unfold Hid atB; simp; omega
                have h3' : (f == z) = false := by simp; omega
                go_wp2
                go_round
                case rel => exact ⟨i + 1, by omega, by go_num, by rw [fin0.out HT.out]⟩
                case measure => simp [intOf]; omega
            · obtain rfl : i = l.length := by omega
              have hde := List.take_length (l := l)
              rw [hde] at hd ⊢
              clear hde
              go_wp2
              all_goals
                go_roundw
                case rel => exact ⟨j + 1, _, by omega, by go_num, rfl, Lib.hid (by rw [HZ.out, ← hc.out]; omega), by omega, by omega, hbx, hby, hbb⟩
                case measure => simp [intOf]; omega
        · obtain rfl : j = 2 := by omega
          have hms := rmost_snoc l (l.take k) l[k]
          rw [← List.take_succ_eq_append_getElem hlt, HX.out, HY.out] at hms
          have HM := Lib.hid hms
          clear hms
          go_wp2
          go_roundw
          case rel => exact ⟨k + 1, c, by omega, by go_num, rfl, Lib.hid (by rw [HM.out, ← hm.out, hc.out]; rfl), by omega, by omega, hb.trans (hbb.mono hb.size)⟩
          case measure => simp [intOf]; omega
    · obtain rfl : k = l.length := by omega
      have hme := hm.out
      rw [List.take_length] at hme
      go_wp2
      go_ret
      exact ⟨ret_one (by rw [hme, H.out]), hb⟩
/-! ### the most press where one begins -/
theorem cnt_mono (l : List IV) (x y : Int) (h : ∀ i ∈ l, atB i.f i.t x = true → atB i.f i.t y = true) : cnt l x ≤ cnt l y := by
  unfold cnt
  have := List.countP_mono_left (l := l) (p := fun i => atB i.f i.t x) (q := fun i => atB i.f i.t y) (fun i hi hp => h i hi hp)
  rw [List.countP_eq_length_filter, List.countP_eq_length_filter] at this
  omega
theorem most_aux (l : List IV) : ∀ (m : List IV) (a : Int), (m.foldl (fun a i => max a (cnt l i.f)) a) = max a (m.foldl (fun a i => max a (cnt l i.f)) a) ∧ ∀ i ∈ m, cnt l i.f ≤ m.foldl (fun a i => max a (cnt l i.f)) a := by
  intro m
  induction m with
  | nil => intro a; simp
  | cons b m ih =>
    intro a
    rw [List.foldl_cons]
    obtain ⟨h1, h2⟩ := ih (max a (cnt l b.f))
    refine ⟨by omega, fun i hi => ?_⟩
    rw [List.mem_cons] at hi
    rcases hi with rfl | hi
    · omega
    · exact h2 i hi
theorem most_ge (l m : List IV) (i : IV) (h : i ∈ m) : cnt l i.f ≤ most l m := (most_aux l m 0).2 i h
theorem most_nonneg (l m : List IV) : 0 ≤ most l m := by have := (most_aux l m 0).1; unfold most; omega
/-- Among some that are there, one begins last. -/
theorem last_begin : ∀ (m : List IV), m ≠ [] → ∃ i ∈ m, ∀ j ∈ m, j.f ≤ i.f := by
  intro m
  induction m with
  | nil => intro h; exact absurd rfl h
  | cons a m ih =>
    intro _
    by_cases hm : m = []
    · subst hm
      refine ⟨a, by simp, fun j hj => ?_⟩
      rw [List.mem_singleton] at hj
      subst hj
      exact Int.le_refl _
    · obtain ⟨i, hi, hj⟩ := ih hm
      by_cases h : a.f ≤ i.f
      · exact ⟨i, by simp [hi], fun j hj' => by
          rw [List.mem_cons] at hj'
          rcases hj' with rfl | hj'
          · exact h
          · exact hj j hj'⟩
      · exact ⟨a, by simp, fun j hj' => by
          rw [List.mem_cons] at hj'
          rcases hj' with rfl | hj'
          · omega
          · have := hj j hj'; omega⟩
theorem atB_iff (f t x : Int) : atB f t x = true ↔ (f ≤ x ∧ x < t) ∨ (f = x ∧ t = x) := by unfold atB; simp
theorem cnt_most (l : List IV) (x : Int) : cnt l x ≤ most l l := by
  by_cases h0 : l.filter (fun i => atB i.f i.t x) = []
  · have : cnt l x = 0 := by unfold cnt; rw [h0]; rfl
    have := most_nonneg l l
    omega
  · obtain ⟨i, hi, hj⟩ := last_begin _ h0
    rw [List.mem_filter] at hi
    refine Int.le_trans (cnt_mono l x i.f fun j hjl hjx => ?_) (most_ge l l i hi.1)
    have h1 := hj j (List.mem_filter.2 ⟨hjl, hjx⟩)
    have h2 := (atB_iff _ _ _).1 hi.2
    have h3 := (atB_iff _ _ _).1 hjx
    rw [atB_iff]
    omega
theorem rmost_eq (l : List IV) : ∀ m : List IV, (∀ i ∈ m, i ∈ l) → rmost l m ≤ most l l ∧ most l m ≤ rmost l m := by
  suffices h : ∀ (m : List IV) (a b : Int), a ≤ most l l → b ≤ a → (m.foldl (fun a i => max (max a (cnt l i.f)) (cnt l i.t)) a) ≤ most l l ∧ m.foldl (fun a i => max a (cnt l i.f)) b ≤ m.foldl (fun a i => max (max a (cnt l i.f)) (cnt l i.t)) a by
    intro m _; exact h m 0 0 (most_nonneg l l) (Int.le_refl _)
  intro m
  induction m with
  | nil => intro a b h1 h2; exact ⟨h1, h2⟩
  | cons i m ih =>
    intro a b h1 h2
    rw [List.foldl_cons, List.foldl_cons]
    have h3 := cnt_most l i.f
    have h4 := cnt_most l i.t
    exact ih _ _ (by omega) (by omega)
theorem rmost_most (l : List IV) : rmost l l = most l l := by
  have := rmost_eq l l (fun _ h => h)
  omega
end Go.Proofs.Ytahikechkggbfaa
