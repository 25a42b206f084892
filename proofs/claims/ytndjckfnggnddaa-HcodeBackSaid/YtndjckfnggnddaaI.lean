/- The walk of HcodeCuts. -/
import Derived.Test.YtndjckfnggnddaaH
import Derived.Deep.QuietTactic
import Derived.BigQuiet
namespace Go.Proofs.Ytndjckfnggnddaa
open Go.RowKit
set_option linter.unusedVariables false
set_option linter.unusedSimpArgs false
def HI.ints (i : HI) : Prop := isInt i.op ∧ isInt i.rd ∧ isInt i.ra ∧ isInt i.rb ∧ HI.fits i
def cellsOf (l : List HI) : List Value := l.flatMap HI.cells
theorem cellsOf_snoc (l : List HI) (i : HI) : cellsOf (l ++ [i]) = cellsOf l ++ HI.cells i := by unfold cellsOf; simp
theorem cellsOf_get (l : List HI) : ∀ (j k : Nat) (hj : j < l.length) (hk : k < 5), (cellsOf l)[5 * j + k]? = (HI.cells l[j])[k]? := by
  induction l with
  | nil => intro j k hj; simp at hj
  | cons a l ih =>
    intro j k hj hk
    have e : cellsOf (a :: l) = HI.cells a ++ cellsOf l := by unfold cellsOf; rw [List.flatMap_cons]
    have hl : (HI.cells a).length = 5 := rfl
    rw [e]
    cases j with
    | zero => rw [List.getElem?_append_left (by omega)]; simp
    | succ j =>
      rw [List.getElem?_append_right (by omega), hl]
      have := ih j k (by simp at hj; omega) hk
      rw [show 5 * (j + 1) + k - 5 = 5 * j + k from by omega, this]
      rfl
theorem add_zero_off (g k : Nat) : (⟨g, 0, none⟩ : Addr).add k = ⟨g, k, none⟩ := by
  unfold Addr.add; split
  · rename_i h0; subst h0; rfl
  · simp
/-- A row of the call's own, as a slice of instructions. -/
theorem own_ins {w : World} {base : Nat} {v : Value} {n : Nat} {l : List HI} (h : w.ownsRow base 26 5 v n (cellsOf l)) (hn : n = l.length) :
    ∃ A c, v = .slice A l.length c ∧ InsAt w A l ∧ l.length ≤ c ∧ c ≤ maxLen := by
  subst hn
  have hh := h
  rcases h.2 with ⟨hv, h0⟩ | ⟨g, cap, cur, hv, hb, hg, hle, hmx, hsz, htk⟩
  · refine ⟨none, 0, by rw [hv, h0], fun hp => absurd hp (by omega), by omega, by unfold maxLen; omega⟩
  · refine ⟨some ⟨g, 0, none⟩, cap, hv, fun hp => ?_, hle, hmx⟩
    subst hv
    obtain ⟨g', cap', e, _, hlt⟩ := hh.form hp
    injection e with e
    injection e with e
    injection e with e
    subst e
    refine ⟨g, 0, rfl, hlt, fun k i hk => ?_⟩
    have hkl : k < l.length := (List.getElem?_eq_some_iff.1 hk).1
    obtain rfl : l[k] = i := (List.getElem?_eq_some_iff.1 hk).2
    have hc := fun (t : Nat) (ht : t < 5) (u : Value) (hu : (HI.cells l[k])[t]? = some u) => hh.cells (g := g) rfl (5 * k + t) u ((cellsOf_get l k t hkl ht).trans hu)
    simp only [add_zero_off] at hc
    have e0 : 0 + k * 5 = 5 * k := by omega
    rw [e0]
    exact ⟨hc 0 (by omega) _ rfl, hc 1 (by omega) _ rfl, hc 2 (by omega) _ rfl, hc 3 (by omega) _ rfl, hc 4 (by omega) _ rfl⟩
theorem own_bytes {w : World} {base : Nat} {v : Value} {n : Nat} {bs : List Int} (h : w.ownsRow base 5 1 v n (bs.map (Value.int .u8))) (hn : n = bs.length) (hb : ∀ x ∈ bs, isByte x) :
    ∃ A c, v = .slice A n c ∧ BytesIn w w.heap.size A bs ∧ n ≤ c ∧ c ≤ maxLen := by
  have hh := h
  rcases h.2 with ⟨hv, h0⟩ | ⟨g, cap, cur, hv, hb', hg, hle, hmx, hsz, htk⟩
  · refine ⟨none, 0, by rw [hv, h0], ⟨hb, fun hp => absurd hp (by omega)⟩, by omega, by unfold maxLen; omega⟩
  · refine ⟨some ⟨g, 0, none⟩, cap, hv, ⟨hb, fun hp => ?_⟩, hle, hmx⟩
    subst hv
    obtain ⟨g', cap', e, _, hlt⟩ := hh.form (by omega)
    injection e with e
    injection e with e
    injection e with e
    subst e
    refine ⟨g, 0, rfl, hlt, fun k x hk => ?_⟩
    have := hh.cells (g := g) rfl k (.int .u8 x) (by rw [List.getElem?_map, hk]; rfl)
    rw [add_zero_off] at this
    rw [Nat.zero_add]; exact this
def some20 (l : List HI) (n : Nat) : List HI := (l.take n).map madeH
theorem some20_snoc (l : List HI) (k : Nat) (h : k < l.length) : some20 l (k + 1) = some20 l k ++ [madeH l[k]] := by
  unfold some20; rw [List.take_succ_eq_append_getElem h, List.map_append]; rfl
/-- What All makes of written instructions that are cut off. -/
theorem all_cut (A : Option Addr) (cap : Nat) (S : List HI) (kk : Nat) (w : World) (hf : ∀ i ∈ S, HI.fits i) (hr : ∀ i ∈ S, HI.right i = true) (hkk : kk ≤ 8 * S.length) (hS : S.length ≤ 100) (hcap : kk ≤ cap) (hcm : cap ≤ maxLen) (hA : BytesIn w w.heap.size A (encs S)) :
    Calls Try.prog 7 #[.slice A kk cap] w fun e w' => Below w.heap.size w w' ∧ ((kk % 8 = 0 ∧ ∃ v, e = .returned (.tuple #[v, .int .i64 0]) ∧ w'.ownsRow w.heap.size 26 5 v (kk / 8) (cellsOf (S.take (kk / 8)))) ∨ (kk % 8 ≠ 0 ∧ e = .returned (.tuple #[.slice none 0 0, .int .i64 10]))) := by
  have hl : ((encs S).take kk).length = kk := by rw [List.length_take, encs_length]; omega
  have h := all_any A cap ((encs S).take kk) w (by omega) (by omega) hcm (hA.take kk)
  rw [hl] at h
  refine h.mono fun e w' hres => ?_
  unfold AllRes at hres
  rw [hl] at hres
  obtain ⟨hb, hres⟩ := hres
  refine ⟨hb, ?_⟩
  have hd := fun j (hj : 8 * j + 8 ≤ kk) => dec_encs S hf hr kk j hj hkk
  rcases hres with ⟨h8, _, v, rfl, hown⟩ | ⟨⟨j, hj, hbad⟩, _⟩ | ⟨h8, _, rfl⟩
  · refine .inl ⟨h8, v, rfl, ?_⟩
    have e : decs ((encs S).take kk) (kk / 8) = S.take (kk / 8) := by
      unfold decs
      apply List.ext_getElem?
      intro j
      rw [List.getElem?_map, List.getElem?_take]
      by_cases hj : j < kk / 8
      · obtain ⟨h1, h2⟩ := hd j (by omega)
        rw [List.getElem?_range hj, if_pos hj, List.getElem?_eq_getElem h1, ← h2]; rfl
      · rw [List.getElem?_eq_none (by simpa using Nat.le_of_not_lt hj), if_neg hj]; rfl
    rw [e] at hown
    exact hown
  · exfalso
    obtain ⟨h1, h2⟩ := hd j (by omega)
    rw [h2, hr _ (List.getElem_mem h1)] at hbad
    cases hbad
  · exact .inr ⟨h8, rfl⟩
theorem all_cut0 (A : Option Addr) (cap : Nat) (S : List HI) (kk : Nat) (w : World) (h8 : kk % 8 = 0) (hf : ∀ i ∈ S, HI.fits i) (hr : ∀ i ∈ S, HI.right i = true) (hkk : kk ≤ 8 * S.length) (hS : S.length ≤ 100) (hcap : kk ≤ cap) (hcm : cap ≤ maxLen) (hA : BytesIn w w.heap.size A (encs S)) :
    Calls Try.prog 7 #[.slice A kk cap] w fun e w' => ∃ A3 c3, e = .returned (.tuple #[.slice A3 (kk / 8) c3, .int .i64 0]) ∧ InsAt w' A3 (S.take (kk / 8)) ∧ kk / 8 ≤ c3 ∧ c3 ≤ maxLen ∧ Below w.heap.size w w' :=
  (all_cut A cap S kk w hf hr hkk hS hcap hcm hA).mono fun e w' ⟨hb, h⟩ => by
    rcases h with ⟨_, v, rfl, hown⟩ | ⟨h, _⟩
    · have hl : (S.take (kk / 8)).length = kk / 8 := by rw [List.length_take]; omega
      obtain ⟨A3, c3, rfl, hin, hc, hm⟩ := own_ins hown hl.symm
      rw [hl] at hc ⊢
      exact ⟨A3, c3, rfl, hin, hc, hm, hb⟩
    · exact absurd h8 h
theorem all_cut1 (A : Option Addr) (cap : Nat) (S : List HI) (kk : Nat) (w : World) (h8 : ¬ kk % 8 = 0) (hf : ∀ i ∈ S, HI.fits i) (hr : ∀ i ∈ S, HI.right i = true) (hkk : kk ≤ 8 * S.length) (hS : S.length ≤ 100) (hcap : kk ≤ cap) (hcm : cap ≤ maxLen) (hA : BytesIn w w.heap.size A (encs S)) :
    Calls Try.prog 7 #[.slice A kk cap] w fun e w' => e = .returned (.tuple #[.slice none 0 0, .int .i64 10]) ∧ Below w.heap.size w w' :=
  (all_cut A cap S kk w hf hr hkk hS hcap hcm hA).mono fun e w' ⟨hb, h⟩ => by
    rcases h with ⟨h, _⟩ | ⟨_, h⟩
    · exact absurd h h8
    · exact ⟨h, hb⟩
set_option maxRecDepth 100000 in
set_option maxHeartbeats 1000000 in
theorem cuts_any (A : Option Addr) (cap : Nat) (l : List HI) (cut : Int) (w : World) (hl : l.length ≤ 9223372036854775807) (hA : InsAt w A l) (hi : ∀ i ∈ l, HI.ints i) (hcut : isInt cut) :
    Calls Try.prog 4 #[.slice A l.length cap, .int .i64 cut] w fun e w' => e = .returned (.bool true) ∧ Below w.heap.size w w' := by
  obtain ⟨i0, hi0, hz0, hz1, hz2⟩ := info_parts Try.info26
  go_enter Try.func4, Try.ntmps4
  go_wp2
  go_loopw [5, 6] (fun v o wr => ∃ k : Nat, k ≤ l.length ∧ k ≤ 20 ∧ o = .int .i64 k ∧ wr.ownsRow w.heap.size 26 5 v k (cellsOf (some20 l k)) ∧ Below w.heap.size w wr) (fun _ o _ => l.length - (intOf o).toNat)
  case atStart => exact ⟨0, Nat.zero_le _, by omega, rfl, World.ownsRow_nil _ _ _ _, Below.refl _ _⟩
  case round =>
    obtain ⟨k, hk, hk20, rfl, hown, hb⟩ := hrel
    by_cases hlt : k < l.length ∧ k < 20
    · obtain ⟨hlt, hlt2⟩ := hlt
      obtain ⟨b, off, rfl, hblt, hc⟩ := (hA.below hb) (by omega)
      obtain ⟨c0, c1, c2, c3, c4⟩ := hc k l[k] (List.getElem?_eq_getElem hlt)
      obtain ⟨j0, j1, j2, j3, j4⟩ := hi l[k] (List.getElem_mem hlt)
      have J0 := Lib.hid j0
      have J1 := Lib.hid j1
      have J2 := Lib.hid j2
      have J3 := Lib.hid j3
      clear hc j0 j1 j2 j3
      go_wp2_with (first | (go_at_call 5; refine (made_any _ _ _ _ _ _ J0.out J1.out J2.out J3.out).mono ?_; rintro e w1 ⟨rfl, hb1⟩; have hown1 := own_below hown hb1) |
        (at_builtin; refine wpList_append_own _ rfl _ _ 22 rfl w.heap.size 26 i0 (.agg #[.int .i64 0, .int .i64 0, .int .i64 0, .int .i64 0, .int .u32 0]) 5 40 Try.underlying22 hi0 hz0 hz1 hz2 rfl (by decide) _ _ _ rfl (hown1.alloc _) ⟨w1.heap.size, 0, none⟩ 1 1 (HI.cells (madeH l[k])) rfl rfl (new_cells w1 _ 26) (cells_one _) (by unfold maxLen; omega) (by omega) (by have h1 := hb.size; have h2 := hb1.size; simp; omega) ?_; intro v' w2 hown2 hgrow _))
      have hbw : Below w.heap.size w w1 := hb.trans (hb1.mono hb.size)
      have hb2 := below_own hbw hown1 hgrow
      rw [← cellsOf_snoc, ← some20_snoc l k hlt] at hown2
      go_roundw
      case rel => exact ⟨k + 1, by omega, by omega, by go_num, hown2, hb2⟩
      case measure => simp [intOf]; omega
    · have hS : (some20 l k).length = k := by unfold some20; simp; omega
      have hfS : ∀ i ∈ some20 l k, HI.fits i := fun i h => by
        unfold some20 at h
        rw [List.mem_map] at h
        obtain ⟨j, hj, rfl⟩ := h
        exact made_fits j (hi j (List.mem_of_mem_take hj)).2.2.2.2
      have hrS : ∀ i ∈ some20 l k, HI.right i = true := fun i h => by
        unfold some20 at h
        rw [List.mem_map] at h
        obtain ⟨j, hj, rfl⟩ := h
        exact made_right j
      have hlS : (encs (some20 l k)).length = 8 * k := by rw [encs_length, hS]
      obtain ⟨A1, c1, rfl, hin1, hc1, hm1⟩ := own_ins hown hS.symm
      have hj := join_ok A1 c1 _ wr (by omega) hin1 hfS hrS
      have hby := encs_byte (some20 l k)
      rw [hS] at hj hc1 hown ⊢
      generalize some20 l k = S at *
      have HJ := Lib.hid hj
      have HF := Lib.hid hfS
      have HR := Lib.hid hrS
      have HB := Lib.hid hby
      have HL := Lib.hid hlS
      have HS := Lib.hid hS
      clear hj hfS hrS hby hlS hS
      have hw := fun (W : World) => within_any cut 0 (8 * k) W hcut.1 hcut.2 (by omega) (by omega) (by omega)
      have hq0 := Int.emod_nonneg cut (by omega : (8 * (k : Int) - 0 + 1) ≠ 0)
      have hq1 := Int.emod_lt_of_pos cut (by omega : 0 < (8 * (k : Int) - 0 + 1))
      generalize cut % (8 * (k : Int) - 0 + 1) = q at *
      obtain ⟨kk, rfl⟩ := Int.eq_ofNat_of_zero_le hq0
      simp only [Int.zero_add] at hw
      have HW := Lib.hid hw
      clear hw
      have hkk : kk ≤ 8 * k := by omega
      by_cases h8 : kk % 8 = 0
      · by_cases hk2 : k < l.length
        all_goals
          go_wp2_with (first | (go_at_call 6; refine HJ.out.mono ?_; rintro e w1 ⟨v2, rfl, hown2, hb1⟩; obtain ⟨A2, c2, rfl, hin2, hc2, hm2⟩ := own_bytes hown2 (HL.out.symm) HB.out) |
            (go_at_call 10; refine (HW.out _).mono ?_; rintro e w2 ⟨rfl, rfl⟩) |
            (go_at_call 7; refine (all_cut0 A2 c2 S kk w1 h8 HF.out HR.out (by rw [HS.out]; omega) (by rw [HS.out]; omega) (by omega) hm2 hin2).mono ?_; rintro e w3 ⟨A3, c3, rfl, hin3, hc3, hm3, hb3⟩))
          have q1 := hb.trans (hb1.mono hb.size)
          have q2 := q1.trans (hb3.mono q1.size)
          have hinS : InsAt w3 A1 S := (hin1.below hb1).below hb3
          obtain ⟨wo, rfl⟩ : ∃ wo : World, wo = wr := ⟨_, rfl⟩
          go_loopw [12] (fun o wx => ∃ t : Nat, t ≤ kk / 8 ∧ o = .int .i64 t ∧ InsAt wx A3 (S.take (kk / 8)) ∧ InsAt wx A1 S ∧ Below w.heap.size w wx) (fun o _ => kk / 8 - (intOf o).toNat)
          case atStart => exact ⟨0, Nat.zero_le _, rfl, hin3, hinS, q2⟩
          case round =>
            obtain ⟨t, ht, rfl, hi3, hi1, hbx⟩ := hrel
            by_cases hlt2 : t < kk / 8
            · have htS : t < S.length := by rw [HS.out]; omega
              have hi3x := Lib.hid hi3
              have hi1x := Lib.hid hi1
              obtain ⟨b3, o3, rfl, _, hc3⟩ := hi3 (by rw [List.length_take]; omega)
              obtain ⟨b1, o1, rfl, _, hc1'⟩ := hi1 (by omega)
              have g3 := hc3 t S[t] (by rw [List.getElem?_take, if_pos hlt2, List.getElem?_eq_getElem htS])
              have g1 := hc1' t S[t] (List.getElem?_eq_getElem htS)
              clear hc3 hc1'
              obtain ⟨x0, x1, x2, x3, x4⟩ := g3
              obtain ⟨y0, y1, y2, y3, y4⟩ := g1
              go_wp2
              go_quiet (fail)
              go_wp2
              go_roundw
              case rel => exact ⟨t + 1, by omega, by go_num, hi3x.out, hi1x.out, ⟨hbx.os, hbx.tape, hbx.output, hbx.size, hbx.block⟩⟩
              case measure => simp [intOf]; omega
            · obtain rfl : t = kk / 8 := by omega
              go_wp2_with (go_at_call 9; refine (known_any _).mono ?_; rintro e w4 ⟨rfl, hb4⟩)
              go_ret
              exact ⟨rfl, hbx.trans (hb4.mono hbx.size)⟩
      · by_cases hk2 : k < l.length
        all_goals
          go_wp2_with (first | (go_at_call 6; refine HJ.out.mono ?_; rintro e w1 ⟨v2, rfl, hown2, hb1⟩; obtain ⟨A2, c2, rfl, hin2, hc2, hm2⟩ := own_bytes hown2 (HL.out.symm) HB.out) |
            (go_at_call 10; refine (HW.out _).mono ?_; rintro e w2 ⟨rfl, rfl⟩) |
            (go_at_call 7; refine (all_cut1 A2 c2 S kk w1 h8 HF.out HR.out (by rw [HS.out]; omega) (by rw [HS.out]; omega) (by omega) hm2 hin2).mono ?_; rintro e w3 ⟨rfl, hb3⟩) |
            (go_at_call 9; refine (known_any _).mono ?_; rintro e w4 ⟨rfl, hb4⟩))
          go_ret
          refine ⟨ret_b (by simp), ?_⟩
          have q1 := hb.trans (hb1.mono hb.size)
          have q2 := q1.trans (hb3.mono q1.size)
          exact q2.trans (hb4.mono q2.size)
end Go.Proofs.Ytndjckfnggnddaa
