/- The walk of HcodeBack. -/
import Derived.Test.YtndjckfnggnddaaJ
import Derived.Deep.QuietTactic
import Derived.BigQuiet
namespace Go.Proofs.Ytndjckfnggnddaa
open Go.RowKit
set_option linter.unusedVariables false
set_option linter.unusedSimpArgs false
theorem keep_bytes {w6 w8 : World} {b6 c6 : Nat} {A6 : Option Addr} {bs : List Int} {o : Obj} {row : Option Nat} (h6 : w6.ownsRow b6 5 1 (.slice A6 bs.length c6) bs.length (bs.map (Value.int .u8))) (hbt : ∀ x ∈ bs, isByte x)
    (hg : (w6.alloc o).grownBy w8 row) (hrow : ∀ k, row = some k → k < b6) : BytesIn w8 w8.heap.size A6 bs := by
  have h8 := (h6.alloc o).kept hg (by
    cases hv : (Value.slice A6 bs.length c6).ownBlock with
    | none => exact .inl rfl
    | some k => exact .inr (fun e => by have := (h6.lt k hv).1; have := hrow k e.symm; omega))
  obtain ⟨A, c, hv, hb, _, _⟩ := own_bytes h8 rfl hbt
  injection hv with e1
  subst e1
  exact hb
set_option maxRecDepth 100000 in
set_option maxHeartbeats 1000000 in
theorem back_any (A : Option Addr) (cap : Nat) (l : List HI) (Ab : Option Addr) (capb : Nat) (bs : List Int) (w : World) (hl : l.length ≤ 9223372036854775807) (hA : InsAt w A l) (hi : ∀ i ∈ l, HI.ints i) (hb0 : BytesIn w w.heap.size Ab bs) (hbl : bs.length ≤ capb) (hbm : capb ≤ maxLen) :
    Calls Try.prog 3 #[.slice A l.length cap, .slice Ab bs.length capb] w fun e w' => e = .returned (.bool true) ∧ Below w.heap.size w w' := by
  obtain ⟨i0, hi0, hz0, hz1, hz2⟩ := info_parts Try.info26
  go_enter Try.func3, Try.ntmps3
  go_wp2
  go_loopw [5, 6] (fun v o wr => ∃ k : Nat, k ≤ l.length ∧ k ≤ 30 ∧ o = .int .i64 k ∧ wr.ownsRow w.heap.size 26 5 v k (cellsOf (some20 l k)) ∧ Below w.heap.size w wr) (fun _ o _ => l.length - (intOf o).toNat)
  case atStart => exact ⟨0, Nat.zero_le _, by omega, rfl, World.ownsRow_nil _ _ _ _, Below.refl _ _⟩
  case round =>
    obtain ⟨k, hk, hk20, rfl, hown, hb⟩ := hrel
    by_cases hlt : k < l.length ∧ k < 30
    · obtain ⟨hlt, hlt2⟩ := hlt
      obtain ⟨b, off, rfl, hblt, hc⟩ := (hA.below hb) (by omega)
      obtain ⟨c0, c1, c2, c3, c4⟩ := hc k l[k] (List.getElem?_eq_getElem hlt)
      obtain ⟨j0, j1, j2, j3, j4⟩ := hi l[k] (List.getElem_mem hlt)
      have J0 := Lib.hid j0
      have J1 := Lib.hid j1
      have J2 := Lib.hid j2
      have J3 := Lib.hid j3
      clear hc j0 j1 j2 j3
      go_wp2_with (first | (go_at_call 5; refine (made_any _ _ _ _ _ _ J0.out J1.out J2.out J3.out).mono ?_; rintro e w1 ⟨rfl, hb1⟩; have hown1 := own_below hown hb1) |
        (at_builtin; refine wpList_append_own _ rfl _ _ 22 rfl w.heap.size 26 i0 (.agg #[.int .i64 0, .int .i64 0, .int .i64 0, .int .i64 0, .int .u32 0]) 5 40 Try.underlying22 hi0 hz0 hz1 hz2 rfl (by decide) _ _ _ rfl (hown1.alloc _) ⟨w1.heap.size, 0, none⟩ 1 1 (HI.cells (madeH l[k])) rfl rfl (new_cells w1 _ 26) (cells_one _) (by unfold maxLen; omega) (by omega) (by have h1 := hb.size; have h2 := hb1.size; simp; omega) ?_; intro v' w2 hown2 hgrow _))
      have hbw : Below w.heap.size w w1 := hb.trans (hb1.mono hb.size)
      have hb2 := below_own hbw hown1 hgrow
      rw [← cellsOf_snoc, ← some20_snoc l k hlt] at hown2
      go_roundw
      case rel => exact ⟨k + 1, by omega, by omega, by go_num, hown2, hb2⟩
      case measure => simp [intOf]; omega
    · have hS : (some20 l k).length = k := by unfold some20; simp; omega
      have hfS : ∀ i ∈ some20 l k, HI.fits i := fun i h => by
        unfold some20 at h
        rw [List.mem_map] at h
        obtain ⟨j, hj, rfl⟩ := h
        exact made_fits j (hi j (List.mem_of_mem_take hj)).2.2.2.2
      have hrS : ∀ i ∈ some20 l k, HI.right i = true := fun i h => by
        unfold some20 at h
        rw [List.mem_map] at h
        obtain ⟨j, hj, rfl⟩ := h
        exact made_right j
      have hlS : (encs (some20 l k)).length = 8 * k := by rw [encs_length, hS]
      obtain ⟨A1, c1, rfl, hin1, hc1, hm1⟩ := own_ins hown hS.symm
      have hj := join_ok A1 c1 _ wr (by omega) hin1 hfS hrS
      have hby := encs_byte (some20 l k)
      have hins : InsAt wr A1 (some20 l k) := hin1
      rw [hS] at hj hc1 hown ⊢
      generalize some20 l k = S at *
      have HJ := Lib.hid hj
      have HF := Lib.hid hfS
      have HR := Lib.hid hrS
      have HB := Lib.hid hby
      have HL := Lib.hid hlS
      have HS := Lib.hid hS
      clear hj hfS hrS hby hlS hS
      have h8k : 8 * k / 8 = k := by omega
      have hall0 := fun (A2 : Option Addr) (c2 : Nat) (W : World) (h1 : 8 * k ≤ c2) (h2 : c2 ≤ maxLen) (h3 : BytesIn W W.heap.size A2 (encs S)) =>
        all_cut0 A2 c2 S (8 * k) W (by omega) HF.out HR.out (by rw [HS.out]; omega) (by rw [HS.out]; omega) h1 h2 h3
      simp only [h8k, List.take_of_length_le (Nat.le_of_eq HS.out)] at hall0
      have HA := Lib.hid hall0
      clear hall0 h8k
      have hl80 : (bs.take 80).length = min bs.length 80 := by rw [List.length_take]; omega
      have hc80 : ∀ W : World, Calls Try.prog 8 #[.slice Ab bs.length capb, .int .i64 80] W fun e w' => e = .returned (.slice Ab (bs.take 80).length capb) ∧ W = w' := fun W => by
        rw [hl80]; exact cut_any Ab bs.length capb 80 W hbl hbm (by omega)
      have hb80 : BytesIn w w.heap.size Ab (bs.take 80) := hb0.take 80
      have hlt80 : (bs.take 80).length ≤ 80 ∧ (bs.take 80).length ≤ capb := by omega
      clear hl80
      generalize bs.take 80 = bx at *
      have HC := Lib.hid hc80
      have HX := Lib.hid hb80
      clear hc80 hb80
      by_cases hk2 : k < l.length
      all_goals
        go_wp2_with (first | (go_at_call 6; refine HJ.out.mono ?_; rintro e w1 ⟨v2, rfl, hown2, hb1⟩; obtain ⟨A2, c2, rfl, hin2, hc2, hm2⟩ := own_bytes hown2 (HL.out.symm) HB.out) |
          (go_at_call 7; refine (HA.out A2 c2 w1 hc2 hm2 hin2).mono ?_; rintro e w3 ⟨A3, c3, rfl, hin3, hc3, hm3, hb3⟩))
        have q1 := hb.trans (hb1.mono hb.size)
        have q2 := q1.trans (hb3.mono q1.size)
        have hinS : InsAt w3 A1 S := (hin1.below hb1).below hb3
        have hownS := own_below (own_below hown hb1) hb3
        obtain ⟨wo, rfl⟩ : ∃ wo : World, wo = wr := ⟨_, rfl⟩
        go_loopw [11] (fun o wx => ∃ t : Nat, t ≤ k ∧ o = .int .i64 t ∧ InsAt wx A3 S ∧ InsAt wx A1 S ∧ wx.ownsRow w.heap.size 26 5 (.slice A1 k c1) k (cellsOf S) ∧ Below w.heap.size w wx) (fun o _ => k - (intOf o).toNat)
        case atStart => exact ⟨0, Nat.zero_le _, rfl, hin3, hinS, hownS, q2⟩
        case round =>
          obtain ⟨t, ht, rfl, hi3, hi1, hox, hbx⟩ := hrel
          by_cases hlt2 : t < k
          · have htS : t < S.length := by rw [HS.out]; omega
            have hi3x := Lib.hid hi3
            have hi1x := Lib.hid hi1
            obtain ⟨b3, o3, rfl, _, hc3⟩ := hi3 (by omega)
            obtain ⟨b1, o1, rfl, _, hc1'⟩ := hi1 (by omega)
            have g3 := hc3 t S[t] (List.getElem?_eq_getElem htS)
            have g1 := hc1' t S[t] (List.getElem?_eq_getElem htS)
            clear hc3 hc1'
            obtain ⟨x0, x1, x2, x3, x4⟩ := g3
            obtain ⟨y0, y1, y2, y3, y4⟩ := g1
            go_wp2
            go_quiet (fail)
            go_wp2
            go_roundw
            case rel => exact ⟨t + 1, by omega, by go_num, hi3x.out, hi1x.out, hox, ⟨hbx.os, hbx.tape, hbx.output, hbx.size, hbx.block⟩⟩
            case measure => simp [intOf]; omega
          · obtain rfl : t = k := by omega
            have hown9 := hox
            have HX9 := HX.out.below hbx
            by_cases hall : ∀ j < bx.length / 8, HI.right (dec bx j) = true
            · by_cases h8 : bx.length % 8 = 0
              · have H7 := Lib.hid (fun (W : World) (hb : BytesIn W W.heap.size Ab bx) => all_ok Ab capb bx W (by omega) hlt80.2 hbm hb h8 hall)
                have hn : bx.length / 8 ≤ 10 := by omega
                have HE := Lib.hid (enc_dec bx HX.out.1 h8)
                have hdl : (decs bx (bx.length / 8)).length = bx.length / 8 := by unfold decs; simp
                have hdf := decs_fits bx HX.out.1 (bx.length / 8)
                have hdr := decs_right bx (bx.length / 8) hall
                have h8l : 8 * (bx.length / 8) = bx.length := by omega
                have HJ2 := Lib.hid (fun (A : Option Addr) (c : Nat) (W : World) (h : InsAt W A (decs bx (bx.length / 8))) => by
                  have := join_ok A c (decs bx (bx.length / 8)) W (by omega) h hdf hdr
                  rw [hdl, enc_dec bx HX.out.1 h8, h8l] at this
                  exact this)
                have HSl := Lib.hid (show (S ++ [(⟨0, 0, 0, 0, 1⟩ : HI)]).length = t + 1 by rw [List.length_append, HS.out]; rfl)
                have HJ3 := Lib.hid (fun (A : Option Addr) (c : Nat) (W : World) (h : InsAt W A (S ++ [(⟨0, 0, 0, 0, 1⟩ : HI)])) => by
                  have h1 := HS.out
                  have h2 := HSl.out
                  have := join_bad A c (S ++ [(⟨0, 0, 0, 0, 1⟩ : HI)]) W (by omega) h (fun i hi => by
                    rw [List.mem_append] at hi
                    rcases hi with hi | hi
                    · exact HF.out i hi
                    · obtain rfl : i = ⟨0, 0, 0, 0, 1⟩ := by simpa using hi
                      unfold HI.fits; decide) t (by omega) (fun j hj => by
                    rw [List.getElem_append_left (by omega)]
                    exact HR.out _ (List.getElem_mem _)) (by
                    rw [List.getElem_append_right (by omega)]
                    simp [HS.out]; decide)
                  rw [h2] at this
                  exact this)
                generalize decs bx (bx.length / 8) = D at *
                clear hall hdl hdf hdr h8l h8
                obtain ⟨sx, hsx0⟩ : ∃ sx, strOf bx = sx := ⟨_, rfl⟩
                have hsx := Lib.hid hsx0
                clear hsx0
                go_wp2_with (first | (go_at_call 8; refine (HC.out _).mono ?_; rintro e w4 ⟨rfl, rfl⟩) | (go_at_call 7; refine (H7.out _ (HX9.more hbx.size)).mono ?_; rintro e w5 ⟨A5, c5, rfl, hin5, hc5, hm5, hb5⟩) | (go_at_call 6; (with_reducible refine (HJ2.out _ _ _ hin5).mono ?_); rintro e w6 ⟨v6, rfl, hown6, hb6⟩; have hown9b := own_below (own_below hown9 hb5) hb6; obtain ⟨A6, c6, rfl, hin6, hc6, hm6⟩ := own_bytes hown6 rfl HX.out.1) |
                  (at_builtin; refine wpList_append_own _ rfl _ _ 22 rfl w.heap.size 26 i0 (.agg #[.int .i64 0, .int .i64 0, .int .i64 0, .int .i64 0, .int .u32 0]) 5 40 Try.underlying22 hi0 hz0 hz1 hz2 rfl (by decide) _ _ _ rfl (hown9b.alloc _) ⟨w6.heap.size, 0, none⟩ 1 1 (HI.cells (⟨0, 0, 0, 0, 1⟩ : HI)) rfl rfl (new_cells w6 _ 26) (cells_one _) (by unfold maxLen; omega) (by omega) (by have h1 := hbx.size; have h2 := hb5.size; have h3 := hb6.size; simp; omega) ?_; intro v8 w8 hown8 hgrow _; obtain ⟨A8, c8, hv8, hin8, hc8, hm8⟩ := own_ins (l := S ++ [(⟨0, 0, 0, 0, 1⟩ : HI)]) (by rw [cellsOf_snoc]; exact hown8) HSl.out.symm; rw [HSl.out] at hv8; subst hv8) |
                  (go_at_call 6; (with_reducible refine (HJ3.out _ _ _ hin8).mono ?_); rintro e w9 ⟨rfl, hb9⟩; have hX68 := keep_bytes hown6 HX.out.1 hgrow (fun k hk => Nat.lt_of_lt_of_le (hown9.lt k hk).2 hb5.size); have hbw6 : Below w.heap.size w w6 := hbx.trans ((hb5.trans (hb6.mono hb5.size)).mono hbx.size); have hbw8 := below_own hbw6 hown9b hgrow; have hbw9 := hbw8.trans (hb9.mono hbw8.size); have hs1 : (convert 23 9 (.slice A6 bx.length c6)).run Try.prog w9 = .ok (.string sx) w9 := (by rw [← hsx.out]; exact run_str_any (hX68.below hb9)); have hs2 : (convert 23 9 (.slice Ab bx.length capb)).run Try.prog w9 = .ok (.string sx) w9 := (by rw [← hsx.out]; exact run_str_any (HX.out.below hbw9))) | (go_at_call 9; refine (known_any _).mono ?_; rintro e w10 ⟨rfl, hb10⟩))
                go_ret
                exact ⟨rfl, hbw9.trans (hb10.mono hbw9.size)⟩
              · have H7 := Lib.hid (fun (W : World) (hb : BytesIn W W.heap.size Ab bx) => all_10 Ab capb bx W (by omega) hlt80.2 hbm hb h8 hall)
                clear hall
                have H8 := Lib.hid h8
                clear h8
                go_wp2_with (first | (go_at_call 8; refine (HC.out _).mono ?_; rintro e w4 ⟨rfl, rfl⟩) | (go_at_call 7; refine (H7.out _ (HX9.more hbx.size)).mono ?_; rintro e w5 ⟨rfl, hb5⟩) | (go_at_call 6; refine (join_ok none 0 [] _ (by simp) (fun h => absurd h (by simp)) (by simp) (by simp)).mono ?_; rintro e w6 ⟨v6, rfl, hown6, hb6⟩) | (go_at_call 9; refine (known_any _).mono ?_; rintro e w7 ⟨rfl, hb7⟩))
                all_goals
                  first
                  | (go_ret; exact ⟨ret_b (bne_iff_ne.2 (by omega)), hbx.trans (((hb5.trans (hb6.mono hb5.size)).trans (hb7.mono (Nat.le_trans hb5.size hb6.size))).mono hbx.size)⟩)
                  | (exfalso; exact H8.out (by omega))
            · have H7 := Lib.hid (fun (W : World) (hb : BytesIn W W.heap.size Ab bx) => all_12 Ab capb bx W (by omega) hlt80.2 hbm hb hall)
              clear hall
              go_wp2_with (first | (go_at_call 8; refine (HC.out _).mono ?_; rintro e w4 ⟨rfl, rfl⟩) | (go_at_call 7; refine (H7.out _ (HX9.more hbx.size)).mono ?_; rintro e w5 ⟨rfl, hb5⟩) | (go_at_call 6; refine (join_ok none 0 [] _ (by simp) (fun h => absurd h (by simp)) (by simp) (by simp)).mono ?_; rintro e w6 ⟨v6, rfl, hown6, hb6⟩) | (go_at_call 9; refine (known_any _).mono ?_; rintro e w7 ⟨rfl, hb7⟩))
              go_ret
              exact ⟨rfl, hbx.trans (((hb5.trans (hb6.mono hb5.size)).trans (hb7.mono (Nat.le_trans hb5.size hb6.size))).mono hbx.size)⟩
end Go.Proofs.Ytndjckfnggnddaa
