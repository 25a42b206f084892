/- Chapter 21: AllocApart walked. -/
import Derived.Test.YtegjicaoemhhlaaJw
import Derived.Test.YtegjicaoemhhlaaJs
namespace Go.Proofs.Ytegjicaoemhhlaa
open Go Go.Ev Go.RowKit
set_option linter.unusedVariables false
set_option linter.unusedSimpArgs false
set_option maxRecDepth 100000
namespace Ls
theorem PlanN.more {l : List IV} {k k' n : Nat} {rg sl : List Int} {slots : Int} (h : PlanN l k n rg sl slots) (hk : k ≤ k') : PlanN l k' n rg sl slots where
  lr := h.lr
  ls := h.ls
  s0 := h.s0
  late := h.late
  place := fun i r s hi h1 h2 => by
    rcases h.place i r s hi h1 h2 with ⟨a, b, c⟩ | q
    · exact .inl ⟨a, by omega, c⟩
    · exact .inr q
  apR := h.apR
  apS := h.apS
theorem getD_at {l : List Int} {i : Nat} (h : i < l.length) : l[i]? = some (l.getD i 0) := by
  rw [List.getD_eq_getElem?_getD, List.getElem?_eq_getElem h]; rfl
theorem PlanN.right {l : List IV} {k : Nat} {rg sl : List Int} {slots : Int} (h : PlanN l k l.length rg sl slots) : planB l k rg sl slots = true := by
  have h1 : placesB k slots rg sl l.length = true := placesB_iff.2 fun i hi => by
    have q := h.place i _ _ hi (getD_at (by rw [h.lr]; exact hi)) (getD_at (by rw [h.ls]; exact hi))
    unfold placeB
    simp only [Bool.or_eq_true, decide_eq_true_eq]
    omega
  have h2 : apartB l rg = true := apartB_iff.2 fun i j hi hj => by
    unfold clashB
    by_cases q : rg.getD i 0 ≠ -1 ∧ rg.getD i 0 = rg.getD j 0
    · have := h.apR j i (rg.getD i 0) hj hi (by rw [q.2]; exact getD_at (by rw [h.lr]; omega)) (getD_at (by rw [h.lr]; exact hi)) q.1
      rw [meetN_comm, this, Bool.and_false]
    · rw [← Bool.decide_and, decide_eq_false q, Bool.false_and]
  have h3 : apartB l sl = true := apartB_iff.2 fun i j hi hj => by
    unfold clashB
    by_cases q : sl.getD i 0 ≠ -1 ∧ sl.getD i 0 = sl.getD j 0
    · have := h.apS j i (sl.getD i 0) hj hi (by rw [q.2]; exact getD_at (by rw [h.ls]; omega)) (getD_at (by rw [h.ls]; exact hi)) q.1
      rw [meetN_comm, this, Bool.and_false]
    · rw [← Bool.decide_and, decide_eq_false q, Bool.false_and]
  unfold planB; rw [h1, h2, h3]; rfl
theorem plan_none {l : List IV} {k : Nat} {rg sl : List Int} {slots : Int} {x : Nat} (hr : rg.length = l.length) (hs : sl.length = l.length) (hx : x < l.length) : planB l k (rg.set x (-1)) (sl.set x (-1)) slots = false := by
  unfold planB
  rw [placesB_no (i := x) hx]
  · rfl
  · rw [getD_of (List.getElem?_set_self (by omega)), getD_of (List.getElem?_set_self (by omega))]
    unfold placeB; rw [decide_eq_false (by omega), decide_eq_false (by omega)]; rfl
theorem apart_clash {l : List IV} {pl : List Int} {x y : Nat} {v : Int} (hx : pl[x]? = some v) (hy : pl[y]? = some v) (hv : v ≠ -1) (hxl : x < l.length) (hyl : y < l.length) (hne : x ≠ y) (hm : meetN l x y = true) : apartB l pl = false := by
  rcases Nat.lt_or_gt_of_ne hne with q | q
  · refine apartB_no hyl q ?_
    unfold clashB; rw [getD_of hx, getD_of hy, meetN_comm, hm, decide_eq_true hv, decide_eq_true rfl]; rfl
  · refine apartB_no hxl q ?_
    unfold clashB; rw [getD_of hx, getD_of hy, hm, decide_eq_true hv, decide_eq_true rfl]; rfl
theorem plan_clash {l : List IV} {k : Nat} {rg sl : List Int} {slots s2 : Int} (h : PlanN l k l.length rg sl slots) {x y : Nat} {v w : Int} (hv : rg[y]? = some v) (hw : sl[y]? = some w) (hx : x < l.length) (hy : y < l.length) (hne : x ≠ y) (hm : meetN l x y = true) : planB l k ((rg.set x (-1)).set x v) ((sl.set x (-1)).set x w) s2 = false := by
  have h1 : ((rg.set x (-1)).set x v)[x]? = some v := List.getElem?_set_self (by rw [List.length_set, h.lr]; exact hx)
  have h2 : ((rg.set x (-1)).set x v)[y]? = some v := by rw [List.getElem?_set_ne hne, List.getElem?_set_ne hne]; exact hv
  have h3 : ((sl.set x (-1)).set x w)[x]? = some w := List.getElem?_set_self (by rw [List.length_set, h.ls]; exact hx)
  have h4 : ((sl.set x (-1)).set x w)[y]? = some w := by rw [List.getElem?_set_ne hne, List.getElem?_set_ne hne]; exact hw
  unfold planB
  by_cases q : v = -1
  · have hp := h.place y v w hy hv hw
    rw [apart_clash h3 h4 (by omega) hx hy hne hm, Bool.and_false, Bool.and_false]
  · rw [apart_clash h1 h2 q hx hy hne hm, Bool.false_and, Bool.and_false]
noncomputable def f5b : Code := Try.f5.body.getD .skip
theorem f5_body : Try.f5.body = some f5b := by kernel_rfl
theorem f5_fn : T16.fn 5 = some Try.f5 := by kernel_rfl
set_option maxHeartbeats 4000000 in
theorem allocapart_s {xa xb xd : List Int} {e3 : Int} {e4 e5 e6 : Int} {q : Sx} {d r : List Int} (hx0 : ∀ x ∈ xa, i64B x = true) (hx1 : ∀ x ∈ xb, i64B x = true) (hx2 : ∀ x ∈ xd, i64B x = true) (he3 : i64B e3 = true) (hl0 : xa.length ≤ 9223372036854775807) (hl1 : xb.length ≤ 9223372036854775807) (hl2 : xd.length ≤ 9223372036854775807) (he4 : i64B e4 = true) (he5 : i64B e5 = true) (he6 : i64B e6 = true) (hd32 : V32 d) (hr32 : V32 r) (hdb : d.length * 4 ≤ 140737488355328) (hrb : r.length * 4 ≤ 140737488355328) (hfl : 0 ≤ q.fl ∧ q.fl < 4294967296) (hcn : 0 ≤ q.cnt ∧ q.cnt < 18446744073709551616) : SCall Try.prog T16 5 #[.agg #[(s1 0 xa.length), (s1 1 xb.length), (s1 2 xd.length), .int .i64 e3], .int .i64 e4, .int .i64 e5, .int .i64 e6, (stq q q.pc (s1 3 d.length) (s1 4 r.length) q.fl q.cnt)] (hq [(inCo xa true), (inCo xb true), (inCo xd true), (uCo d true), (uCo r true)]) fun v h => v = .bool true ∧ h = hq [(inCo xa true), (inCo xb true), (inCo xd true), (uCo d true), (uCo r true)] := by
 simp only [i64B, Bool.and_eq_true, decide_eq_true_eq] at he4 he5 he6
 refine scall_sd 149 _ 5 kr f5_fn f5_body rfl rfl rfl fun X hX => ?_
 refine sd_run 10 (sdC 23 8 #[.agg #[(s1 0 xa.length), (s1 1 xb.length), (s1 2 xd.length), .int .i64 e3]] (@sum_s xa xb xd e3 hx0 hx1 hx2 he3 hl0 hl1 hl2) i3_ ⟨inC_b, inC_b, inC_b, ⟨⟩⟩ ?_)
 rintro hn9 v9 k9 ⟨nd10_, fl10_, C0_, OD0_, q1_0, q1_1, q1_2, q1_3, rfl, rfl⟩
 refine mkG (pgV (s5 7 C0_.length) nd10_ 0 6 0 (s1 8 OD0_.length) (.slice none 0 0) fl10_ 0 (-1) 0 0 1 (C0_.length : Int)) [(inCo xa true), (inCo xb true), (inCo xd true), (uCo d true), (uCo r true), some ⟨[(s1 0 xa.length), (s1 1 xb.length), (s1 2 xd.length), .int .i64 e3], 24, false⟩, some ⟨(slq q q.pc (s1 3 d.length) (s1 4 r.length) q.fl q.cnt), 34, false⟩, (iiCo C0_ false), (inCo OD0_ false)] ⟨cvs 0 hn9, cvs 1 hn9, cvs 2 hn9, cvo, cvo, cvo, cvo, iiC_c 3, inC_c 4, ⟨⟩⟩ ?_
 have hlen := q1_0.len
 have hIv := ivs_of q1_0
 refine sd_run 5 ?_
 obtain ⟨k, hk0⟩ := Int.eq_ofNat_of_zero_le (show 0 ≤ 1 + e4 % (16 - 1 + 1) by omega)
 have hk9 : 1 ≤ k ∧ k ≤ 16 := by omega
 refine sd_run 2 (sd_ask 25 (.int .i64 (1 + e4 % (16 - 1 + 1))) 10 #[.int .i64 e4, .int .i64 1, .int .i64 16] kr kr kr (orc10 e4 1 16 (inB_of (by first | omega | (simp only [bd] at *; omega)) (by first | omega | (simp only [bd] at *; omega)) (by first | omega | (simp only [bd] at *; omega)) (by first | omega | (simp only [bd] at *; omega)))) (sd_see 25 (.int .i64 (k : Int)) (see_int (x := (1 + e4 % (16 - 1 + 1))) kr hk0) (sd_run 7 (sdC 29 11 #[(pgV (s5 7 C0_.length) nd10_ 0 6 0 (s1 8 OD0_.length) (.slice none 0 0) fl10_ 0 (-1) 0 0 1 (C0_.length : Int)), .int .i64 (k : Int)] (@do_s C0_ OD0_ [] nd10_ 0 6 0 fl10_ 0 (-1) 0 0 1 k q1_0 (by omega) (by omega) (by first | omega | (simp; done) | (simp; omega)) q1_1 hk9) [some 7, some 8, none] ⟨iiC_b, inC_b, rfl, ⟨⟩⟩ ?_))))
 rintro hn9 v9 k9 ⟨rg1_, sl1_, slots1_, q2_0, q2_1, rfl, rfl⟩
 refine mkG (.tuple #[.agg #[.slice (some ⟨10, 0, none⟩) C0_.length C0_.length, .slice (some ⟨11, 0, none⟩) C0_.length C0_.length, .int .i64 slots1_], .int .i64 0]) [(inCo xa true), (inCo xb true), (inCo xd true), (uCo d true), (uCo r true), some ⟨[(s1 0 xa.length), (s1 1 xb.length), (s1 2 xd.length), .int .i64 e3], 24, false⟩, some ⟨(slq q q.pc (s1 3 d.length) (s1 4 r.length) q.fl q.cnt), 34, false⟩, (iiCo C0_ false), (inCo OD0_ false), some ⟨[(s5 7 C0_.length), .int .i64 nd10_, .int .i64 0, .int .i64 6, .int .i64 0, (s1 8 OD0_.length), .slice none 0 0, .int .i64 fl10_, .int .u32 0, .int .i64 (-1), .int .i64 0, .int .u32 0, .int .i64 1, .int .i64 (C0_.length : Int)], 29, false⟩, (inCo rg1_ false), (inCo sl1_ false)] ⟨cvo, cvo, cvo, cvo, cvo, cvo, cvo, cvs 0 hn9, cvs 1 hn9, cvo, inC_c 3, inC_c 4, ⟨⟩⟩ ?_
 have hrg29 : rg1_.length = C0_.length := by rw [q2_0.lr, ofL_len]
 have hsl29 : sl1_.length = C0_.length := by rw [q2_0.ls, ofL_len]
 have hs029 := q2_0.s0
 refine sd_run 27 (sd_see 42 (.bool false) (see_bool kr ((bne_self_eq_false _) : ((C0_.length : Int) != (C0_.length : Int)) = false)) (sd_run 7 (sd_see 49 (.bool false) (see_bool kr ((bne_self_eq_false _) : ((C0_.length : Int) != (C0_.length : Int)) = false)) (sd_run 8 ?_))))
 by_cases hc0 : C0_.length = 0
 ·skip
  refine sd_run 3 (sd_see 52 (.bool true) (see_bool (x := ((C0_.length : Int) == 0)) kr (beq_iff_eq.2 (by omega))) (sd_run 5 (sd_ask 53 (.bool true) 9 #[] kr kr kr rfl (sd_run 5 ?_))))
  refine sdY (.bool true) hX [(inCo xa true), (inCo xb true), (inCo xd true), (uCo d true), (uCo r true)] i5_ ⟨inC_b, inC_b, inC_b, uC_b, uC_b, ⟨⟩⟩ ⟨rfl, rfl⟩
 ·skip
  have hx1 := within_in e5 (k := (C0_.length : Int)) (by omega)
  have hy1 := within_in e6 (k := (C0_.length : Int)) (by omega)
  obtain ⟨x, hx0⟩ := Int.eq_ofNat_of_zero_le hx1.1
  obtain ⟨y, hy0⟩ := Int.eq_ofNat_of_zero_le hy1.1
  have hxl : x < C0_.length := by have := hx1.2; omega
  have hyl : y < C0_.length := by have := hy1.2; omega
  refine sd_run 3 (sd_see 52 (.bool false) (see_bool (x := ((C0_.length : Int) == 0)) kr (beq_eq_false_iff_ne.2 (by omega))) (sd_run 10 (sd_see 56 (.int .i64 ((C0_.length : Int) - 1)) (see_int (x := (IntKind.i64.wrap ((C0_.length : Int) - 1))) kr (w64 (by omega) (by omega) (by omega))) (sd_ask 57 (.int .i64 (0 + e5 % (((C0_.length : Int) - 1) - 0 + 1))) 10 #[.int .i64 e5, .int .i64 0, .int .i64 ((C0_.length : Int) - 1)] kr kr kr (orc10 e5 0 ((C0_.length : Int) - 1) (inB_of (by first | omega | (simp only [bd] at *; omega)) (by first | omega | (simp only [bd] at *; omega)) (by first | omega | (simp only [bd] at *; omega)) (by first | omega | (simp only [bd] at *; omega)))) (sd_see 57 (.int .i64 (x : Int)) (see_int (x := (0 + e5 % (((C0_.length : Int) - 1) - 0 + 1))) kr hx0) (sd_run 3 (sd_see 60 (.int .i64 ((C0_.length : Int) - 1)) (see_int (x := (IntKind.i64.wrap ((C0_.length : Int) - 1))) kr (w64 (by omega) (by omega) (by omega))) ?_)))))))
  refine sd_ask 61 (.int .i64 (0 + e6 % (((C0_.length : Int) - 1) - 0 + 1))) 10 #[.int .i64 e6, .int .i64 0, .int .i64 ((C0_.length : Int) - 1)] kr kr kr (orc10 e6 0 ((C0_.length : Int) - 1) (inB_of (by first | omega | (simp only [bd] at *; omega)) (by first | omega | (simp only [bd] at *; omega)) (by first | omega | (simp only [bd] at *; omega)) (by first | omega | (simp only [bd] at *; omega)))) (sd_see 61 (.int .i64 (y : Int)) (see_int (x := (0 + e6 % (((C0_.length : Int) - 1) - 0 + 1))) kr hy0) (sd_run 7 (sdC 63 16 #[(pgV (s5 7 C0_.length) nd10_ 0 6 0 (s1 8 OD0_.length) (.slice none 0 0) fl10_ 0 (-1) 0 0 1 (C0_.length : Int))] (@of20_s C0_ OD0_ [] nd10_ 0 6 0 fl10_ 0 (-1) 0 0 1 q1_0 (by omega) (by omega) (by first | omega | (simp; done) | (simp; omega)) q1_1) [some 7, some 8, none] ⟨iiC_b, inC_b, rfl, ⟨⟩⟩ ?_)))
  rintro hn9 v9 k9 ⟨rfl, rfl⟩
  refine mkG (.slice (some ⟨13, 0, none⟩) C0_.length (unk + 3)) [(inCo xa true), (inCo xb true), (inCo xd true), (uCo d true), (uCo r true), some ⟨[(s1 0 xa.length), (s1 1 xb.length), (s1 2 xd.length), .int .i64 e3], 24, false⟩, some ⟨(slq q q.pc (s1 3 d.length) (s1 4 r.length) q.fl q.cnt), 34, false⟩, (iiCo C0_ false), (inCo OD0_ false), some ⟨[(s5 7 C0_.length), .int .i64 nd10_, .int .i64 0, .int .i64 6, .int .i64 0, (s1 8 OD0_.length), .slice none 0 0, .int .i64 fl10_, .int .u32 0, .int .i64 (-1), .int .i64 0, .int .u32 0, .int .i64 1, .int .i64 (C0_.length : Int)], 29, false⟩, (inCo rg1_ false), (inCo sl1_ false), some ⟨[Value.slice (some ⟨10, 0, none⟩) C0_.length C0_.length, .slice (some ⟨11, 0, none⟩) C0_.length C0_.length, .int .i64 slots1_], 38, false⟩, some ⟨(tab ivC (ofL C0_ OD0_ [] fl10_ (-1))), 53, false⟩] ⟨cvo, cvo, cvo, cvo, cvo, cvo, cvo, cvs 0 hn9, cvs 1 hn9, cvo, cvo, cvo, cvo, ivC_c 3, ⟨⟩⟩ ?_
  refine sd_run 4 ?_
  obtain ⟨v9r, hv9r⟩ := row_of (l := rg1_) (i := y) rfl (by omega)
  obtain ⟨v9s, hv9s⟩ := row_of (l := sl1_) (i := y) rfl (by omega)
  obtain ⟨w9r, hw9r⟩ := row_of (l := rg1_) (i := x) rfl (by omega)
  obtain ⟨w9s, hw9s⟩ := row_of (l := sl1_) (i := x) rfl (by omega)
  have hz9r : ((rg1_).set x (-1))[x]? = some (-1) := List.getElem?_set_self (by omega)
  have hz9s : ((sl1_).set x (-1))[x]? = some (-1) := List.getElem?_set_self (by omega)
  obtain ⟨a3, ha3⟩ : ∃ x_, (ofL C0_ OD0_ [] fl10_ (-1))[x]? = some x_ := ⟨_, List.getElem?_eq_getElem (by first | omega | (simp; done) | (simp; omega))⟩
  obtain ⟨a4, ha4⟩ : ∃ x_, (ofL C0_ OD0_ [] fl10_ (-1))[y]? = some x_ := ⟨_, List.getElem?_eq_getElem (by first | omega | (simp; done) | (simp; omega))⟩
  by_cases hxy : x = y
  ·skip
   refine sd_run 2 (sdC 65 13 #[(stq q q.pc (s1 3 d.length) (s1 4 r.length) q.fl q.cnt)] (@trim_s q d [] r [] true hdb hrb) [some 3, some 4] ⟨bk_flat (tab uC d) kr (tab_plain uC_pl _) (congrArg (tab uC) (List.append_nil _).symm), bk_flat (tab uC r) kr (tab_plain uC_pl _) (congrArg (tab uC) (List.append_nil _).symm), ⟨⟩⟩ ?_)
   rintro hn9 v9 k9 ⟨rfl, rfl⟩
   refine mkG (stq q q.pc (s1 14 ((d.take 16).length)) (s1 15 ((r.take 16).length)) (Int.tmod q.fl 16) (Int.tmod q.cnt 1099511627776)) [(inCo xa true), (inCo xb true), (inCo xd true), (uCo d true), (uCo r true), some ⟨[(s1 0 xa.length), (s1 1 xb.length), (s1 2 xd.length), .int .i64 e3], 24, false⟩, some ⟨(slq q q.pc (s1 3 d.length) (s1 4 r.length) q.fl q.cnt), 34, false⟩, (iiCo C0_ false), (inCo OD0_ false), some ⟨[(s5 7 C0_.length), .int .i64 nd10_, .int .i64 0, .int .i64 6, .int .i64 0, (s1 8 OD0_.length), .slice none 0 0, .int .i64 fl10_, .int .u32 0, .int .i64 (-1), .int .i64 0, .int .u32 0, .int .i64 1, .int .i64 (C0_.length : Int)], 29, false⟩, (inCo rg1_ false), (inCo sl1_ false), some ⟨[Value.slice (some ⟨10, 0, none⟩) C0_.length C0_.length, .slice (some ⟨11, 0, none⟩) C0_.length C0_.length, .int .i64 slots1_], 38, false⟩, some ⟨(tab ivC (ofL C0_ OD0_ [] fl10_ (-1))), 53, false⟩, (uCo (d.take 16 ++ d.drop 16) false), (uCo (r.take 16 ++ r.drop 16) false)] ⟨cvo, cvo, cvo, cvs 0 hn9, cvs 1 hn9, cvo, cvo, cvo, cvo, cvo, cvo, cvo, cvo, cvo, uC_c 2, uC_c 3, ⟨⟩⟩ ?_
   refine sd_run 4 (sd_drawP kr ?_)
   refine svp_line ?_
   refine sv_run 3 ?_
   refine sv_first0N 69 22 22 3 0 7 16 C0_.length 17 (.slice (some ⟨10, 0, none⟩) C0_.length C0_.length) (tab inC rg1_) (tab inC rg1_) kr kr kr kr kr (asrc_tab (l := rg1_) (e := 3) (ro := false) inC_len kr hrg29.symm) kr (by omega) kr rfl kr kr ?_
   refine sv_run 2 ?_
   refine sv_rd 72 (.slice (some ⟨11, 0, none⟩) C0_.length C0_.length) 22 12 1 kr kr kr kr (veq_slice _ _ _) kr ?_
   refine sv_first0N 73 22 22 3 0 7 18 C0_.length 19 (.slice (some ⟨11, 0, none⟩) C0_.length C0_.length) (tab inC sl1_) (tab inC sl1_) kr kr kr kr kr (asrc_tab (l := sl1_) (e := 3) (ro := false) inC_len kr hsl29.symm) kr (by omega) kr rfl kr kr ?_
   refine sv_run 1 ?_
   refine sv_rd 75 (.int .i64 slots1_) 3 12 2 kr kr kr kr (veq_int _ _) kr ?_
   refine sv_run 3 ?_
   refine sv_end kr ?_
   refine sd_run 2 (sd_drawQ [(4, 7)] kr kr ?_)
   refine sq_run 4 ?_
   refine sq_rd 81 (s1 19 C0_.length) (.pointer (some ⟨20, 1, none⟩)) 22 kr kr kr kr (veq_slice _ _ _) kr ?_
   refine sq_run 1 ?_
   refine sq_ix 83 (.pointer (some ⟨17, 0 + x * 1, none⟩)) x C0_.length kr kr kr (by omega) kr ?_
   refine sq_st 3 17 (0 + x * 1) (.int .i64 (-1)) (tab inC ((rg1_).set x (-1))) (cells := tab inC rg1_) (e := 3) kr kr kr kr kr kr (st_cell (k := x) (j := 0) (a' := (-1)) inC_len kr kr hw9r kr rfl) ⟨kr, kr, kr⟩ ?_
   refine sq_ix 84 (.pointer (some ⟨19, 0 + x * 1, none⟩)) x C0_.length kr kr kr (by omega) kr ?_
   refine sq_st 3 19 (0 + x * 1) (.int .i64 (-1)) (tab inC ((sl1_).set x (-1))) (cells := tab inC sl1_) (e := 3) kr kr kr kr kr kr (st_cell (k := x) (j := 0) (a' := (-1)) inC_len kr kr hw9s kr rfl) ⟨kr, kr, kr⟩ ?_
   refine sq_end kr ?_
   refine sd_run 7 (sdCp 88 12 #[(pgV (s5 7 C0_.length) nd10_ 0 6 0 (s1 8 OD0_.length) (.slice none 0 0) fl10_ 0 (-1) 0 0 1 (C0_.length : Int)), .agg #[(s1 17 C0_.length), (s1 19 C0_.length), .int .i64 slots1_], .int .i64 (k : Int)] (@pright_s C0_ OD0_ [] nd10_ 0 6 0 fl10_ 0 (-1) 0 0 1 ((rg1_).set x (-1)) ((sl1_).set x (-1)) slots1_ k (unk + 1) (unk + 1) q1_0 (by omega) (by omega) (by first | omega | (simp; done) | (simp; omega)) q1_1 (by first | omega | (simp; done) | (simp; omega)) (by first | omega | (simp; done) | (simp; omega)) (by omega) hk9) [some 7, some 8, none, some 17, some 19] ⟨iiC_b, inC_b, rfl, inC_b, inC_b, ⟨⟩⟩ ?_)
   rintro v9 k9 ⟨rfl, rfl⟩
   refine ⟨rfl, .bool (planB (ofL C0_ OD0_ [] fl10_ (-1)) k ((rg1_).set x (-1)) ((sl1_).set x (-1)) slots1_), kr, ?_⟩
   refine sd_see 88 (.bool false) (see_bool kr (plan_none (l := (ofL C0_ OD0_ [] fl10_ (-1))) (k := k) (slots := slots1_) (x := x) (rg := rg1_) (sl := sl1_) (by rw [ofL_len]; exact hrg29) (by rw [ofL_len]; exact hsl29) (by rw [ofL_len]; omega))) (sd_run 12 (sdC 94 14 #[(pgV (s5 7 C0_.length) nd10_ 0 6 0 (s1 8 OD0_.length) (.slice none 0 0) fl10_ 0 (-1) 0 0 1 (C0_.length : Int)), .agg #[(s1 17 C0_.length), (s1 19 C0_.length), .int .i64 slots1_], .int .i64 (k : Int), (stq q q.pc (s1 14 ((d.take 16).length)) (s1 15 ((r.take 16).length)) (Int.tmod q.fl 16) (Int.tmod q.cnt 1099511627776))] (@pl_bad C0_ OD0_ [] nd10_ (0 : Int) 6 0 fl10_ 0 (-1) 0 0 1 (⟨q.pc, (Int.tmod q.fl 16), q.root, q.vec, q.epc, q.cause, q.addr, (Int.tmod q.cnt 1099511627776), q.su, q.pg, q.ie, q.es, q.ei, q.ha⟩ : Sx) (d.take 16) (d.drop 16) (r.take 16) (r.drop 16) false ((rg1_).set x (-1)) ((sl1_).set x (-1)) slots1_ k (unk + 1) (unk + 1) q1_0 (by omega) (by omega) (by first | omega | (simp; done) | (simp; omega)) q1_1 (by first | omega | (simp; done) | (simp; omega)) (by first | omega | (simp; done) | (simp; omega)) (by omega) hk9 (by first | omega | (simp; done) | (simp; omega)) (by first | omega | (simp; done) | (simp; omega)) (plan_none (l := (ofL C0_ OD0_ [] fl10_ (-1))) (k := k) (slots := slots1_) (x := x) (rg := rg1_) (sl := sl1_) (by rw [ofL_len]; exact hrg29) (by rw [ofL_len]; exact hsl29) (by rw [ofL_len]; omega))) [some 7, some 8, none, some 14, some 15, some 17, some 19] ⟨iiC_b, inC_b, rfl, bk_flat (tab uC (d.take 16 ++ d.drop 16)) kr (tab_plain uC_pl _) (by rfl), bk_flat (tab uC (r.take 16 ++ r.drop 16)) kr (tab_plain uC_pl _) (by rfl), inC_b, inC_b, ⟨⟩⟩ ?_))
   rintro hn9 v9 k9 ⟨rfl, rfl⟩
   refine mkG (.tuple #[(stq q q.pc (s1 21 ((d.take 16).length)) (s1 22 ((r.take 16).length)) (Int.tmod q.fl 16) (Int.tmod q.cnt 1099511627776)), .bool false]) [(inCo xa true), (inCo xb true), (inCo xd true), (uCo d true), (uCo r true), some ⟨[(s1 0 xa.length), (s1 1 xb.length), (s1 2 xd.length), .int .i64 e3], 24, false⟩, some ⟨(slq q q.pc (s1 14 ((d.take 16).length)) (s1 15 ((r.take 16).length)) (Int.tmod q.fl 16) (Int.tmod q.cnt 1099511627776)), 34, false⟩, (iiCo C0_ false), (inCo OD0_ false), some ⟨[(s5 7 C0_.length), .int .i64 nd10_, .int .i64 0, .int .i64 6, .int .i64 0, (s1 8 OD0_.length), .slice none 0 0, .int .i64 fl10_, .int .u32 0, .int .i64 (-1), .int .i64 0, .int .u32 0, .int .i64 1, .int .i64 (C0_.length : Int)], 29, false⟩, (inCo rg1_ false), (inCo sl1_ false), some ⟨[Value.slice (some ⟨10, 0, none⟩) C0_.length C0_.length, .slice (some ⟨11, 0, none⟩) C0_.length C0_.length, .int .i64 slots1_], 38, false⟩, some ⟨(tab ivC (ofL C0_ OD0_ [] fl10_ (-1))), 53, false⟩, (uCo (d.take 16 ++ d.drop 16) false), (uCo (r.take 16 ++ r.drop 16) false), none, (inCo ((rg1_).set x (-1)) false), none, (inCo ((sl1_).set x (-1)) false), some ⟨[(s1 17 C0_.length), (s1 19 C0_.length), .int .i64 slots1_], 38, false⟩, (uCo (d.take 16) false), (uCo (r.take 16) false)] ⟨cvo, cvo, cvo, cvo, cvo, cvo, cvo, cvs 0 hn9, cvs 1 hn9, cvo, cvo, cvo, cvo, cvo, cvs 3 hn9, cvs 4 hn9, cvs 5 hn9, cvs 6 hn9, cvo, uC_c 7, uC_c 8, ⟨⟩⟩ ?_
   refine sd_run 14 (sdCp 101 17 #[(stq q q.pc (s1 21 ((d.take 16).length)) (s1 22 ((r.take 16).length)) (Int.tmod q.fl 16) (Int.tmod q.cnt 1099511627776)), (stq q q.pc (s1 14 ((d.take 16).length)) (s1 15 ((r.take 16).length)) (Int.tmod q.fl 16) (Int.tmod q.cnt 1099511627776))] (@keep_t (⟨q.pc, (Int.tmod q.fl 16), q.root, q.vec, q.epc, q.cause, q.addr, (Int.tmod q.cnt 1099511627776), q.su, q.pg, q.ie, q.es, q.ei, q.ha⟩ : Sx) (d.take 16) [] (d.drop 16) (r.take 16) [] (r.drop 16) false false (by first | omega | (simp; done) | (simp; omega)) (by first | omega | (simp; done) | (simp; omega))) [some 21, some 22, some 14, some 15] ⟨bk_flat (tab uC (d.take 16)) kr (tab_plain uC_pl _) (congrArg (tab uC) (List.append_nil _).symm), bk_flat (tab uC (r.take 16)) kr (tab_plain uC_pl _) (congrArg (tab uC) (List.append_nil _).symm), bk_flat (tab uC (d.take 16 ++ d.drop 16)) kr (tab_plain uC_pl _) (by rfl), bk_flat (tab uC (r.take 16 ++ r.drop 16)) kr (tab_plain uC_pl _) (by rfl), ⟨⟩⟩ ?_)
   rintro v9 k9 ⟨rfl, rfl⟩
   refine ⟨rfl, .bool true, kr, ?_⟩
   refine sd_run 8 (sd_drawQ [(4, 17)] kr kr ?_)
   refine sq_run 4 ?_
   refine sq_rd 108 (s1 19 C0_.length) (.pointer (some ⟨20, 1, none⟩)) 22 kr kr kr kr (veq_slice _ _ _) kr ?_
   refine sq_run 4 ?_
   refine sq_ix 113 (.pointer (some ⟨10, 0 + y * 1, none⟩)) y C0_.length kr kr kr (by omega) kr ?_
   refine sq_ld 114 (.int .i64 v9r) 3 (.pointer (some ⟨10, 0 + y * 1, none⟩)) kr kr kr (ld_cell (l := rg1_) (e := 3) (ro := false) (k := y) (j := 0) inC_len kr kr kr hv9r rfl) kr ?_
   refine sq_run 3 ?_
   refine sq_ix 118 (.pointer (some ⟨11, 0 + y * 1, none⟩)) y C0_.length kr kr kr (by omega) kr ?_
   refine sq_ld 119 (.int .i64 v9s) 3 (.pointer (some ⟨11, 0 + y * 1, none⟩)) kr kr kr (ld_cell (l := sl1_) (e := 3) (ro := false) (k := y) (j := 0) inC_len kr kr kr hv9s rfl) kr ?_
   refine sq_ix 120 (.pointer (some ⟨17, 0 + x * 1, none⟩)) x C0_.length kr kr kr (by omega) kr ?_
   refine sq_st 3 17 (0 + x * 1) (.int .i64 v9r) (tab inC (((rg1_).set x (-1)).set x v9r)) (cells := tab inC ((rg1_).set x (-1))) (e := 3) kr kr kr kr kr kr (st_cell (k := x) (j := 0) (a' := v9r) inC_len kr kr hz9r kr rfl) ⟨kr, kr, kr⟩ ?_
   refine sq_ix 121 (.pointer (some ⟨19, 0 + x * 1, none⟩)) x C0_.length kr kr kr (by omega) kr ?_
   refine sq_st 3 19 (0 + x * 1) (.int .i64 v9s) (tab inC (((sl1_).set x (-1)).set x v9s)) (cells := tab inC ((sl1_).set x (-1))) (e := 3) kr kr kr kr kr kr (st_cell (k := x) (j := 0) (a' := v9s) inC_len kr kr hz9s kr rfl) ⟨kr, kr, kr⟩ ?_
   refine sq_end kr ?_
   refine sd_run 7 (sd_see 124 (.bool false) (see_bool (x := ((x : Int) != (y : Int))) kr (bne_eq_false_iff_eq.2 (by omega))) (sd_run 27 (sdCp 145 12 #[(pgV (s5 7 C0_.length) nd10_ 0 6 0 (s1 8 OD0_.length) (.slice none 0 0) fl10_ 0 (-1) 0 0 1 (C0_.length : Int)), .agg #[.slice (some ⟨10, 0, none⟩) C0_.length C0_.length, .slice (some ⟨11, 0, none⟩) C0_.length C0_.length, .int .i64 slots1_], .int .i64 (k : Int)] (@pright_s C0_ OD0_ [] nd10_ 0 6 0 fl10_ 0 (-1) 0 0 1 rg1_ sl1_ slots1_ k C0_.length C0_.length q1_0 (by omega) (by omega) (by first | omega | (simp; done) | (simp; omega)) q1_1 (by first | omega | (simp; done) | (simp; omega)) (by first | omega | (simp; done) | (simp; omega)) (by omega) hk9) [some 7, some 8, none, some 10, some 11] ⟨iiC_b, inC_b, rfl, inC_b, inC_b, ⟨⟩⟩ ?_)))
   rintro v9 k9 ⟨rfl, rfl⟩
   refine ⟨rfl, .bool (planB (ofL C0_ OD0_ [] fl10_ (-1)) k rg1_ sl1_ slots1_), kr, ?_⟩
   refine sd_see 145 (.bool true) (see_bool kr (PlanN.right (by rw [ofL_len]; exact q2_0))) (sd_run 1 (sd_ask 147 (.bool true) 9 #[] kr kr kr rfl (sd_run 5 ?_)))
   refine sdY (.bool true) hX [(inCo xa true), (inCo xb true), (inCo xd true), (uCo d true), (uCo r true)] i5_ ⟨inC_b, inC_b, inC_b, uC_b, uC_b, ⟨⟩⟩ ⟨rfl, rfl⟩
  ·skip
   rcases Bool.eq_false_or_eq_true (meetB (a3.1, a3.2.1, a3.2.2) (a4.1, a4.2.1, a4.2.2)) with hmt | hmt
   ·skip
    refine sd_run 2 (sdC 65 13 #[(stq q q.pc (s1 3 d.length) (s1 4 r.length) q.fl q.cnt)] (@trim_s q d [] r [] true hdb hrb) [some 3, some 4] ⟨bk_flat (tab uC d) kr (tab_plain uC_pl _) (congrArg (tab uC) (List.append_nil _).symm), bk_flat (tab uC r) kr (tab_plain uC_pl _) (congrArg (tab uC) (List.append_nil _).symm), ⟨⟩⟩ ?_)
    rintro hn9 v9 k9 ⟨rfl, rfl⟩
    refine mkG (stq q q.pc (s1 14 ((d.take 16).length)) (s1 15 ((r.take 16).length)) (Int.tmod q.fl 16) (Int.tmod q.cnt 1099511627776)) [(inCo xa true), (inCo xb true), (inCo xd true), (uCo d true), (uCo r true), some ⟨[(s1 0 xa.length), (s1 1 xb.length), (s1 2 xd.length), .int .i64 e3], 24, false⟩, some ⟨(slq q q.pc (s1 3 d.length) (s1 4 r.length) q.fl q.cnt), 34, false⟩, (iiCo C0_ false), (inCo OD0_ false), some ⟨[(s5 7 C0_.length), .int .i64 nd10_, .int .i64 0, .int .i64 6, .int .i64 0, (s1 8 OD0_.length), .slice none 0 0, .int .i64 fl10_, .int .u32 0, .int .i64 (-1), .int .i64 0, .int .u32 0, .int .i64 1, .int .i64 (C0_.length : Int)], 29, false⟩, (inCo rg1_ false), (inCo sl1_ false), some ⟨[Value.slice (some ⟨10, 0, none⟩) C0_.length C0_.length, .slice (some ⟨11, 0, none⟩) C0_.length C0_.length, .int .i64 slots1_], 38, false⟩, some ⟨(tab ivC (ofL C0_ OD0_ [] fl10_ (-1))), 53, false⟩, (uCo (d.take 16 ++ d.drop 16) false), (uCo (r.take 16 ++ r.drop 16) false)] ⟨cvo, cvo, cvo, cvs 0 hn9, cvs 1 hn9, cvo, cvo, cvo, cvo, cvo, cvo, cvo, cvo, cvo, uC_c 2, uC_c 3, ⟨⟩⟩ ?_
    refine sd_run 4 (sd_drawP kr ?_)
    refine svp_line ?_
    refine sv_run 3 ?_
    refine sv_first0N 69 22 22 3 0 7 16 C0_.length 17 (.slice (some ⟨10, 0, none⟩) C0_.length C0_.length) (tab inC rg1_) (tab inC rg1_) kr kr kr kr kr (asrc_tab (l := rg1_) (e := 3) (ro := false) inC_len kr hrg29.symm) kr (by omega) kr rfl kr kr ?_
    refine sv_run 2 ?_
    refine sv_rd 72 (.slice (some ⟨11, 0, none⟩) C0_.length C0_.length) 22 12 1 kr kr kr kr (veq_slice _ _ _) kr ?_
    refine sv_first0N 73 22 22 3 0 7 18 C0_.length 19 (.slice (some ⟨11, 0, none⟩) C0_.length C0_.length) (tab inC sl1_) (tab inC sl1_) kr kr kr kr kr (asrc_tab (l := sl1_) (e := 3) (ro := false) inC_len kr hsl29.symm) kr (by omega) kr rfl kr kr ?_
    refine sv_run 1 ?_
    refine sv_rd 75 (.int .i64 slots1_) 3 12 2 kr kr kr kr (veq_int _ _) kr ?_
    refine sv_run 3 ?_
    refine sv_end kr ?_
    refine sd_run 2 (sd_drawQ [(4, 7)] kr kr ?_)
    refine sq_run 4 ?_
    refine sq_rd 81 (s1 19 C0_.length) (.pointer (some ⟨20, 1, none⟩)) 22 kr kr kr kr (veq_slice _ _ _) kr ?_
    refine sq_run 1 ?_
    refine sq_ix 83 (.pointer (some ⟨17, 0 + x * 1, none⟩)) x C0_.length kr kr kr (by omega) kr ?_
    refine sq_st 3 17 (0 + x * 1) (.int .i64 (-1)) (tab inC ((rg1_).set x (-1))) (cells := tab inC rg1_) (e := 3) kr kr kr kr kr kr (st_cell (k := x) (j := 0) (a' := (-1)) inC_len kr kr hw9r kr rfl) ⟨kr, kr, kr⟩ ?_
    refine sq_ix 84 (.pointer (some ⟨19, 0 + x * 1, none⟩)) x C0_.length kr kr kr (by omega) kr ?_
    refine sq_st 3 19 (0 + x * 1) (.int .i64 (-1)) (tab inC ((sl1_).set x (-1))) (cells := tab inC sl1_) (e := 3) kr kr kr kr kr kr (st_cell (k := x) (j := 0) (a' := (-1)) inC_len kr kr hw9s kr rfl) ⟨kr, kr, kr⟩ ?_
    refine sq_end kr ?_
    refine sd_run 7 (sdCp 88 12 #[(pgV (s5 7 C0_.length) nd10_ 0 6 0 (s1 8 OD0_.length) (.slice none 0 0) fl10_ 0 (-1) 0 0 1 (C0_.length : Int)), .agg #[(s1 17 C0_.length), (s1 19 C0_.length), .int .i64 slots1_], .int .i64 (k : Int)] (@pright_s C0_ OD0_ [] nd10_ 0 6 0 fl10_ 0 (-1) 0 0 1 ((rg1_).set x (-1)) ((sl1_).set x (-1)) slots1_ k (unk + 1) (unk + 1) q1_0 (by omega) (by omega) (by first | omega | (simp; done) | (simp; omega)) q1_1 (by first | omega | (simp; done) | (simp; omega)) (by first | omega | (simp; done) | (simp; omega)) (by omega) hk9) [some 7, some 8, none, some 17, some 19] ⟨iiC_b, inC_b, rfl, inC_b, inC_b, ⟨⟩⟩ ?_)
    rintro v9 k9 ⟨rfl, rfl⟩
    refine ⟨rfl, .bool (planB (ofL C0_ OD0_ [] fl10_ (-1)) k ((rg1_).set x (-1)) ((sl1_).set x (-1)) slots1_), kr, ?_⟩
    refine sd_see 88 (.bool false) (see_bool kr (plan_none (l := (ofL C0_ OD0_ [] fl10_ (-1))) (k := k) (slots := slots1_) (x := x) (rg := rg1_) (sl := sl1_) (by rw [ofL_len]; exact hrg29) (by rw [ofL_len]; exact hsl29) (by rw [ofL_len]; omega))) (sd_run 12 (sdC 94 14 #[(pgV (s5 7 C0_.length) nd10_ 0 6 0 (s1 8 OD0_.length) (.slice none 0 0) fl10_ 0 (-1) 0 0 1 (C0_.length : Int)), .agg #[(s1 17 C0_.length), (s1 19 C0_.length), .int .i64 slots1_], .int .i64 (k : Int), (stq q q.pc (s1 14 ((d.take 16).length)) (s1 15 ((r.take 16).length)) (Int.tmod q.fl 16) (Int.tmod q.cnt 1099511627776))] (@pl_bad C0_ OD0_ [] nd10_ (0 : Int) 6 0 fl10_ 0 (-1) 0 0 1 (⟨q.pc, (Int.tmod q.fl 16), q.root, q.vec, q.epc, q.cause, q.addr, (Int.tmod q.cnt 1099511627776), q.su, q.pg, q.ie, q.es, q.ei, q.ha⟩ : Sx) (d.take 16) (d.drop 16) (r.take 16) (r.drop 16) false ((rg1_).set x (-1)) ((sl1_).set x (-1)) slots1_ k (unk + 1) (unk + 1) q1_0 (by omega) (by omega) (by first | omega | (simp; done) | (simp; omega)) q1_1 (by first | omega | (simp; done) | (simp; omega)) (by first | omega | (simp; done) | (simp; omega)) (by omega) hk9 (by first | omega | (simp; done) | (simp; omega)) (by first | omega | (simp; done) | (simp; omega)) (plan_none (l := (ofL C0_ OD0_ [] fl10_ (-1))) (k := k) (slots := slots1_) (x := x) (rg := rg1_) (sl := sl1_) (by rw [ofL_len]; exact hrg29) (by rw [ofL_len]; exact hsl29) (by rw [ofL_len]; omega))) [some 7, some 8, none, some 14, some 15, some 17, some 19] ⟨iiC_b, inC_b, rfl, bk_flat (tab uC (d.take 16 ++ d.drop 16)) kr (tab_plain uC_pl _) (by rfl), bk_flat (tab uC (r.take 16 ++ r.drop 16)) kr (tab_plain uC_pl _) (by rfl), inC_b, inC_b, ⟨⟩⟩ ?_))
    rintro hn9 v9 k9 ⟨rfl, rfl⟩
    refine mkG (.tuple #[(stq q q.pc (s1 21 ((d.take 16).length)) (s1 22 ((r.take 16).length)) (Int.tmod q.fl 16) (Int.tmod q.cnt 1099511627776)), .bool false]) [(inCo xa true), (inCo xb true), (inCo xd true), (uCo d true), (uCo r true), some ⟨[(s1 0 xa.length), (s1 1 xb.length), (s1 2 xd.length), .int .i64 e3], 24, false⟩, some ⟨(slq q q.pc (s1 14 ((d.take 16).length)) (s1 15 ((r.take 16).length)) (Int.tmod q.fl 16) (Int.tmod q.cnt 1099511627776)), 34, false⟩, (iiCo C0_ false), (inCo OD0_ false), some ⟨[(s5 7 C0_.length), .int .i64 nd10_, .int .i64 0, .int .i64 6, .int .i64 0, (s1 8 OD0_.length), .slice none 0 0, .int .i64 fl10_, .int .u32 0, .int .i64 (-1), .int .i64 0, .int .u32 0, .int .i64 1, .int .i64 (C0_.length : Int)], 29, false⟩, (inCo rg1_ false), (inCo sl1_ false), some ⟨[Value.slice (some ⟨10, 0, none⟩) C0_.length C0_.length, .slice (some ⟨11, 0, none⟩) C0_.length C0_.length, .int .i64 slots1_], 38, false⟩, some ⟨(tab ivC (ofL C0_ OD0_ [] fl10_ (-1))), 53, false⟩, (uCo (d.take 16 ++ d.drop 16) false), (uCo (r.take 16 ++ r.drop 16) false), none, (inCo ((rg1_).set x (-1)) false), none, (inCo ((sl1_).set x (-1)) false), some ⟨[(s1 17 C0_.length), (s1 19 C0_.length), .int .i64 slots1_], 38, false⟩, (uCo (d.take 16) false), (uCo (r.take 16) false)] ⟨cvo, cvo, cvo, cvo, cvo, cvo, cvo, cvs 0 hn9, cvs 1 hn9, cvo, cvo, cvo, cvo, cvo, cvs 3 hn9, cvs 4 hn9, cvs 5 hn9, cvs 6 hn9, cvo, uC_c 7, uC_c 8, ⟨⟩⟩ ?_
    refine sd_run 14 (sdCp 101 17 #[(stq q q.pc (s1 21 ((d.take 16).length)) (s1 22 ((r.take 16).length)) (Int.tmod q.fl 16) (Int.tmod q.cnt 1099511627776)), (stq q q.pc (s1 14 ((d.take 16).length)) (s1 15 ((r.take 16).length)) (Int.tmod q.fl 16) (Int.tmod q.cnt 1099511627776))] (@keep_t (⟨q.pc, (Int.tmod q.fl 16), q.root, q.vec, q.epc, q.cause, q.addr, (Int.tmod q.cnt 1099511627776), q.su, q.pg, q.ie, q.es, q.ei, q.ha⟩ : Sx) (d.take 16) [] (d.drop 16) (r.take 16) [] (r.drop 16) false false (by first | omega | (simp; done) | (simp; omega)) (by first | omega | (simp; done) | (simp; omega))) [some 21, some 22, some 14, some 15] ⟨bk_flat (tab uC (d.take 16)) kr (tab_plain uC_pl _) (congrArg (tab uC) (List.append_nil _).symm), bk_flat (tab uC (r.take 16)) kr (tab_plain uC_pl _) (congrArg (tab uC) (List.append_nil _).symm), bk_flat (tab uC (d.take 16 ++ d.drop 16)) kr (tab_plain uC_pl _) (by rfl), bk_flat (tab uC (r.take 16 ++ r.drop 16)) kr (tab_plain uC_pl _) (by rfl), ⟨⟩⟩ ?_)
    rintro v9 k9 ⟨rfl, rfl⟩
    refine ⟨rfl, .bool true, kr, ?_⟩
    refine sd_run 8 (sd_drawQ [(4, 17)] kr kr ?_)
    refine sq_run 4 ?_
    refine sq_rd 108 (s1 19 C0_.length) (.pointer (some ⟨20, 1, none⟩)) 22 kr kr kr kr (veq_slice _ _ _) kr ?_
    refine sq_run 4 ?_
    refine sq_ix 113 (.pointer (some ⟨10, 0 + y * 1, none⟩)) y C0_.length kr kr kr (by omega) kr ?_
    refine sq_ld 114 (.int .i64 v9r) 3 (.pointer (some ⟨10, 0 + y * 1, none⟩)) kr kr kr (ld_cell (l := rg1_) (e := 3) (ro := false) (k := y) (j := 0) inC_len kr kr kr hv9r rfl) kr ?_
    refine sq_run 3 ?_
    refine sq_ix 118 (.pointer (some ⟨11, 0 + y * 1, none⟩)) y C0_.length kr kr kr (by omega) kr ?_
    refine sq_ld 119 (.int .i64 v9s) 3 (.pointer (some ⟨11, 0 + y * 1, none⟩)) kr kr kr (ld_cell (l := sl1_) (e := 3) (ro := false) (k := y) (j := 0) inC_len kr kr kr hv9s rfl) kr ?_
    refine sq_ix 120 (.pointer (some ⟨17, 0 + x * 1, none⟩)) x C0_.length kr kr kr (by omega) kr ?_
    refine sq_st 3 17 (0 + x * 1) (.int .i64 v9r) (tab inC (((rg1_).set x (-1)).set x v9r)) (cells := tab inC ((rg1_).set x (-1))) (e := 3) kr kr kr kr kr kr (st_cell (k := x) (j := 0) (a' := v9r) inC_len kr kr hz9r kr rfl) ⟨kr, kr, kr⟩ ?_
    refine sq_ix 121 (.pointer (some ⟨19, 0 + x * 1, none⟩)) x C0_.length kr kr kr (by omega) kr ?_
    refine sq_st 3 19 (0 + x * 1) (.int .i64 v9s) (tab inC (((sl1_).set x (-1)).set x v9s)) (cells := tab inC ((sl1_).set x (-1))) (e := 3) kr kr kr kr kr kr (st_cell (k := x) (j := 0) (a' := v9s) inC_len kr kr hz9s kr rfl) ⟨kr, kr, kr⟩ ?_
    refine sq_end kr ?_
    refine sd_run 7 (sd_see 124 (.bool true) (see_bool (x := ((x : Int) != (y : Int))) kr (bne_iff_ne.2 (by omega))) (sd_run 3 (sd_ix 128 (.pointer (some ⟨13, 0 + x * 3, none⟩)) x C0_.length kr kr kr (by omega) (sd_ld 129 (.agg #[.int .i64 a3.1, .int .i64 a3.2.1, .int .i64 a3.2.2]) 53 (.pointer (some ⟨13, 0 + x * 3, none⟩)) kr kr kr (ld_row (l := ofL C0_ OD0_ [] fl10_ (-1)) (e := 53) (ro := false) (k := x) ivC_len kr kr kr ha3) (sd_run 2 (sd_ix 132 (.pointer (some ⟨13, 0 + y * 3, none⟩)) y C0_.length kr kr kr (by omega) (sd_ld 133 (.agg #[.int .i64 a4.1, .int .i64 a4.2.1, .int .i64 a4.2.2]) 53 (.pointer (some ⟨13, 0 + y * 3, none⟩)) kr kr kr (ld_row (l := ofL C0_ OD0_ [] fl10_ (-1)) (e := 53) (ro := false) (k := y) ivC_len kr kr kr ha4) ?_)))))))
    refine sdCp 134 18 #[.agg #[.int .i64 a3.1, .int .i64 a3.2.1, .int .i64 a3.2.2], .agg #[.int .i64 a4.1, .int .i64 a4.2.1, .int .i64 a4.2.2]] (@meetR_s a3.1 a3.2.1 a3.2.2 a4.1 a4.2.1 a4.2.2 ) [] True.intro ?_
    rintro v9 k9 ⟨rfl, rfl⟩
    refine ⟨rfl, .bool (meetB (a3.1, a3.2.1, a3.2.2) (a4.1, a4.2.1, a4.2.2)), kr, ?_⟩
    refine sd_see 134 (.bool true) (see_bool kr hmt) (sd_run 5 (sdCp 140 12 #[(pgV (s5 7 C0_.length) nd10_ 0 6 0 (s1 8 OD0_.length) (.slice none 0 0) fl10_ 0 (-1) 0 0 1 (C0_.length : Int)), .agg #[(s1 17 C0_.length), (s1 19 C0_.length), .int .i64 slots1_], .int .i64 (k : Int)] (@pright_s C0_ OD0_ [] nd10_ 0 6 0 fl10_ 0 (-1) 0 0 1 (((rg1_).set x (-1)).set x v9r) (((sl1_).set x (-1)).set x v9s) slots1_ k (unk + 1) (unk + 1) q1_0 (by omega) (by omega) (by first | omega | (simp; done) | (simp; omega)) q1_1 (by first | omega | (simp; done) | (simp; omega)) (by first | omega | (simp; done) | (simp; omega)) (by omega) hk9) [some 7, some 8, none, some 17, some 19] ⟨iiC_b, inC_b, rfl, inC_b, inC_b, ⟨⟩⟩ ?_))
    rintro v9 k9 ⟨rfl, rfl⟩
    refine ⟨rfl, .bool (planB (ofL C0_ OD0_ [] fl10_ (-1)) k (((rg1_).set x (-1)).set x v9r) (((sl1_).set x (-1)).set x v9s) slots1_), kr, ?_⟩
    refine sd_see 140 (.bool false) (see_bool kr (plan_clash (l := (ofL C0_ OD0_ [] fl10_ (-1))) (s2 := slots1_) (by rw [ofL_len]; exact q2_0) hv9r hv9s (by rw [ofL_len]; omega) (by rw [ofL_len]; omega) hxy ((meetN_at ha3 ha4).trans hmt))) (sd_run 11 (sdCp 145 12 #[(pgV (s5 7 C0_.length) nd10_ 0 6 0 (s1 8 OD0_.length) (.slice none 0 0) fl10_ 0 (-1) 0 0 1 (C0_.length : Int)), .agg #[.slice (some ⟨10, 0, none⟩) C0_.length C0_.length, .slice (some ⟨11, 0, none⟩) C0_.length C0_.length, .int .i64 slots1_], .int .i64 (k : Int)] (@pright_s C0_ OD0_ [] nd10_ 0 6 0 fl10_ 0 (-1) 0 0 1 rg1_ sl1_ slots1_ k C0_.length C0_.length q1_0 (by omega) (by omega) (by first | omega | (simp; done) | (simp; omega)) q1_1 (by first | omega | (simp; done) | (simp; omega)) (by first | omega | (simp; done) | (simp; omega)) (by omega) hk9) [some 7, some 8, none, some 10, some 11] ⟨iiC_b, inC_b, rfl, inC_b, inC_b, ⟨⟩⟩ ?_))
    rintro v9 k9 ⟨rfl, rfl⟩
    refine ⟨rfl, .bool (planB (ofL C0_ OD0_ [] fl10_ (-1)) k rg1_ sl1_ slots1_), kr, ?_⟩
    refine sd_see 145 (.bool true) (see_bool kr (PlanN.right (by rw [ofL_len]; exact q2_0))) (sd_run 1 (sd_ask 147 (.bool true) 9 #[] kr kr kr rfl (sd_run 5 ?_)))
    refine sdY (.bool true) hX [(inCo xa true), (inCo xb true), (inCo xd true), (uCo d true), (uCo r true)] i5_ ⟨inC_b, inC_b, inC_b, uC_b, uC_b, ⟨⟩⟩ ⟨rfl, rfl⟩
   ·skip
    refine sd_run 2 (sdC 65 13 #[(stq q q.pc (s1 3 d.length) (s1 4 r.length) q.fl q.cnt)] (@trim_s q d [] r [] true hdb hrb) [some 3, some 4] ⟨bk_flat (tab uC d) kr (tab_plain uC_pl _) (congrArg (tab uC) (List.append_nil _).symm), bk_flat (tab uC r) kr (tab_plain uC_pl _) (congrArg (tab uC) (List.append_nil _).symm), ⟨⟩⟩ ?_)
    rintro hn9 v9 k9 ⟨rfl, rfl⟩
    refine mkG (stq q q.pc (s1 14 ((d.take 16).length)) (s1 15 ((r.take 16).length)) (Int.tmod q.fl 16) (Int.tmod q.cnt 1099511627776)) [(inCo xa true), (inCo xb true), (inCo xd true), (uCo d true), (uCo r true), some ⟨[(s1 0 xa.length), (s1 1 xb.length), (s1 2 xd.length), .int .i64 e3], 24, false⟩, some ⟨(slq q q.pc (s1 3 d.length) (s1 4 r.length) q.fl q.cnt), 34, false⟩, (iiCo C0_ false), (inCo OD0_ false), some ⟨[(s5 7 C0_.length), .int .i64 nd10_, .int .i64 0, .int .i64 6, .int .i64 0, (s1 8 OD0_.length), .slice none 0 0, .int .i64 fl10_, .int .u32 0, .int .i64 (-1), .int .i64 0, .int .u32 0, .int .i64 1, .int .i64 (C0_.length : Int)], 29, false⟩, (inCo rg1_ false), (inCo sl1_ false), some ⟨[Value.slice (some ⟨10, 0, none⟩) C0_.length C0_.length, .slice (some ⟨11, 0, none⟩) C0_.length C0_.length, .int .i64 slots1_], 38, false⟩, some ⟨(tab ivC (ofL C0_ OD0_ [] fl10_ (-1))), 53, false⟩, (uCo (d.take 16 ++ d.drop 16) false), (uCo (r.take 16 ++ r.drop 16) false)] ⟨cvo, cvo, cvo, cvs 0 hn9, cvs 1 hn9, cvo, cvo, cvo, cvo, cvo, cvo, cvo, cvo, cvo, uC_c 2, uC_c 3, ⟨⟩⟩ ?_
    refine sd_run 4 (sd_drawP kr ?_)
    refine svp_line ?_
    refine sv_run 3 ?_
    refine sv_first0N 69 22 22 3 0 7 16 C0_.length 17 (.slice (some ⟨10, 0, none⟩) C0_.length C0_.length) (tab inC rg1_) (tab inC rg1_) kr kr kr kr kr (asrc_tab (l := rg1_) (e := 3) (ro := false) inC_len kr hrg29.symm) kr (by omega) kr rfl kr kr ?_
    refine sv_run 2 ?_
    refine sv_rd 72 (.slice (some ⟨11, 0, none⟩) C0_.length C0_.length) 22 12 1 kr kr kr kr (veq_slice _ _ _) kr ?_
    refine sv_first0N 73 22 22 3 0 7 18 C0_.length 19 (.slice (some ⟨11, 0, none⟩) C0_.length C0_.length) (tab inC sl1_) (tab inC sl1_) kr kr kr kr kr (asrc_tab (l := sl1_) (e := 3) (ro := false) inC_len kr hsl29.symm) kr (by omega) kr rfl kr kr ?_
    refine sv_run 1 ?_
    refine sv_rd 75 (.int .i64 slots1_) 3 12 2 kr kr kr kr (veq_int _ _) kr ?_
    refine sv_run 3 ?_
    refine sv_end kr ?_
    refine sd_run 2 (sd_drawQ [(4, 7)] kr kr ?_)
    refine sq_run 4 ?_
    refine sq_rd 81 (s1 19 C0_.length) (.pointer (some ⟨20, 1, none⟩)) 22 kr kr kr kr (veq_slice _ _ _) kr ?_
    refine sq_run 1 ?_
    refine sq_ix 83 (.pointer (some ⟨17, 0 + x * 1, none⟩)) x C0_.length kr kr kr (by omega) kr ?_
    refine sq_st 3 17 (0 + x * 1) (.int .i64 (-1)) (tab inC ((rg1_).set x (-1))) (cells := tab inC rg1_) (e := 3) kr kr kr kr kr kr (st_cell (k := x) (j := 0) (a' := (-1)) inC_len kr kr hw9r kr rfl) ⟨kr, kr, kr⟩ ?_
    refine sq_ix 84 (.pointer (some ⟨19, 0 + x * 1, none⟩)) x C0_.length kr kr kr (by omega) kr ?_
    refine sq_st 3 19 (0 + x * 1) (.int .i64 (-1)) (tab inC ((sl1_).set x (-1))) (cells := tab inC sl1_) (e := 3) kr kr kr kr kr kr (st_cell (k := x) (j := 0) (a' := (-1)) inC_len kr kr hw9s kr rfl) ⟨kr, kr, kr⟩ ?_
    refine sq_end kr ?_
    refine sd_run 7 (sdCp 88 12 #[(pgV (s5 7 C0_.length) nd10_ 0 6 0 (s1 8 OD0_.length) (.slice none 0 0) fl10_ 0 (-1) 0 0 1 (C0_.length : Int)), .agg #[(s1 17 C0_.length), (s1 19 C0_.length), .int .i64 slots1_], .int .i64 (k : Int)] (@pright_s C0_ OD0_ [] nd10_ 0 6 0 fl10_ 0 (-1) 0 0 1 ((rg1_).set x (-1)) ((sl1_).set x (-1)) slots1_ k (unk + 1) (unk + 1) q1_0 (by omega) (by omega) (by first | omega | (simp; done) | (simp; omega)) q1_1 (by first | omega | (simp; done) | (simp; omega)) (by first | omega | (simp; done) | (simp; omega)) (by omega) hk9) [some 7, some 8, none, some 17, some 19] ⟨iiC_b, inC_b, rfl, inC_b, inC_b, ⟨⟩⟩ ?_)
    rintro v9 k9 ⟨rfl, rfl⟩
    refine ⟨rfl, .bool (planB (ofL C0_ OD0_ [] fl10_ (-1)) k ((rg1_).set x (-1)) ((sl1_).set x (-1)) slots1_), kr, ?_⟩
    refine sd_see 88 (.bool false) (see_bool kr (plan_none (l := (ofL C0_ OD0_ [] fl10_ (-1))) (k := k) (slots := slots1_) (x := x) (rg := rg1_) (sl := sl1_) (by rw [ofL_len]; exact hrg29) (by rw [ofL_len]; exact hsl29) (by rw [ofL_len]; omega))) (sd_run 12 (sdC 94 14 #[(pgV (s5 7 C0_.length) nd10_ 0 6 0 (s1 8 OD0_.length) (.slice none 0 0) fl10_ 0 (-1) 0 0 1 (C0_.length : Int)), .agg #[(s1 17 C0_.length), (s1 19 C0_.length), .int .i64 slots1_], .int .i64 (k : Int), (stq q q.pc (s1 14 ((d.take 16).length)) (s1 15 ((r.take 16).length)) (Int.tmod q.fl 16) (Int.tmod q.cnt 1099511627776))] (@pl_bad C0_ OD0_ [] nd10_ (0 : Int) 6 0 fl10_ 0 (-1) 0 0 1 (⟨q.pc, (Int.tmod q.fl 16), q.root, q.vec, q.epc, q.cause, q.addr, (Int.tmod q.cnt 1099511627776), q.su, q.pg, q.ie, q.es, q.ei, q.ha⟩ : Sx) (d.take 16) (d.drop 16) (r.take 16) (r.drop 16) false ((rg1_).set x (-1)) ((sl1_).set x (-1)) slots1_ k (unk + 1) (unk + 1) q1_0 (by omega) (by omega) (by first | omega | (simp; done) | (simp; omega)) q1_1 (by first | omega | (simp; done) | (simp; omega)) (by first | omega | (simp; done) | (simp; omega)) (by omega) hk9 (by first | omega | (simp; done) | (simp; omega)) (by first | omega | (simp; done) | (simp; omega)) (plan_none (l := (ofL C0_ OD0_ [] fl10_ (-1))) (k := k) (slots := slots1_) (x := x) (rg := rg1_) (sl := sl1_) (by rw [ofL_len]; exact hrg29) (by rw [ofL_len]; exact hsl29) (by rw [ofL_len]; omega))) [some 7, some 8, none, some 14, some 15, some 17, some 19] ⟨iiC_b, inC_b, rfl, bk_flat (tab uC (d.take 16 ++ d.drop 16)) kr (tab_plain uC_pl _) (by rfl), bk_flat (tab uC (r.take 16 ++ r.drop 16)) kr (tab_plain uC_pl _) (by rfl), inC_b, inC_b, ⟨⟩⟩ ?_))
    rintro hn9 v9 k9 ⟨rfl, rfl⟩
    refine mkG (.tuple #[(stq q q.pc (s1 21 ((d.take 16).length)) (s1 22 ((r.take 16).length)) (Int.tmod q.fl 16) (Int.tmod q.cnt 1099511627776)), .bool false]) [(inCo xa true), (inCo xb true), (inCo xd true), (uCo d true), (uCo r true), some ⟨[(s1 0 xa.length), (s1 1 xb.length), (s1 2 xd.length), .int .i64 e3], 24, false⟩, some ⟨(slq q q.pc (s1 14 ((d.take 16).length)) (s1 15 ((r.take 16).length)) (Int.tmod q.fl 16) (Int.tmod q.cnt 1099511627776)), 34, false⟩, (iiCo C0_ false), (inCo OD0_ false), some ⟨[(s5 7 C0_.length), .int .i64 nd10_, .int .i64 0, .int .i64 6, .int .i64 0, (s1 8 OD0_.length), .slice none 0 0, .int .i64 fl10_, .int .u32 0, .int .i64 (-1), .int .i64 0, .int .u32 0, .int .i64 1, .int .i64 (C0_.length : Int)], 29, false⟩, (inCo rg1_ false), (inCo sl1_ false), some ⟨[Value.slice (some ⟨10, 0, none⟩) C0_.length C0_.length, .slice (some ⟨11, 0, none⟩) C0_.length C0_.length, .int .i64 slots1_], 38, false⟩, some ⟨(tab ivC (ofL C0_ OD0_ [] fl10_ (-1))), 53, false⟩, (uCo (d.take 16 ++ d.drop 16) false), (uCo (r.take 16 ++ r.drop 16) false), none, (inCo ((rg1_).set x (-1)) false), none, (inCo ((sl1_).set x (-1)) false), some ⟨[(s1 17 C0_.length), (s1 19 C0_.length), .int .i64 slots1_], 38, false⟩, (uCo (d.take 16) false), (uCo (r.take 16) false)] ⟨cvo, cvo, cvo, cvo, cvo, cvo, cvo, cvs 0 hn9, cvs 1 hn9, cvo, cvo, cvo, cvo, cvo, cvs 3 hn9, cvs 4 hn9, cvs 5 hn9, cvs 6 hn9, cvo, uC_c 7, uC_c 8, ⟨⟩⟩ ?_
    refine sd_run 14 (sdCp 101 17 #[(stq q q.pc (s1 21 ((d.take 16).length)) (s1 22 ((r.take 16).length)) (Int.tmod q.fl 16) (Int.tmod q.cnt 1099511627776)), (stq q q.pc (s1 14 ((d.take 16).length)) (s1 15 ((r.take 16).length)) (Int.tmod q.fl 16) (Int.tmod q.cnt 1099511627776))] (@keep_t (⟨q.pc, (Int.tmod q.fl 16), q.root, q.vec, q.epc, q.cause, q.addr, (Int.tmod q.cnt 1099511627776), q.su, q.pg, q.ie, q.es, q.ei, q.ha⟩ : Sx) (d.take 16) [] (d.drop 16) (r.take 16) [] (r.drop 16) false false (by first | omega | (simp; done) | (simp; omega)) (by first | omega | (simp; done) | (simp; omega))) [some 21, some 22, some 14, some 15] ⟨bk_flat (tab uC (d.take 16)) kr (tab_plain uC_pl _) (congrArg (tab uC) (List.append_nil _).symm), bk_flat (tab uC (r.take 16)) kr (tab_plain uC_pl _) (congrArg (tab uC) (List.append_nil _).symm), bk_flat (tab uC (d.take 16 ++ d.drop 16)) kr (tab_plain uC_pl _) (by rfl), bk_flat (tab uC (r.take 16 ++ r.drop 16)) kr (tab_plain uC_pl _) (by rfl), ⟨⟩⟩ ?_)
    rintro v9 k9 ⟨rfl, rfl⟩
    refine ⟨rfl, .bool true, kr, ?_⟩
    refine sd_run 8 (sd_drawQ [(4, 17)] kr kr ?_)
    refine sq_run 4 ?_
    refine sq_rd 108 (s1 19 C0_.length) (.pointer (some ⟨20, 1, none⟩)) 22 kr kr kr kr (veq_slice _ _ _) kr ?_
    refine sq_run 4 ?_
    refine sq_ix 113 (.pointer (some ⟨10, 0 + y * 1, none⟩)) y C0_.length kr kr kr (by omega) kr ?_
    refine sq_ld 114 (.int .i64 v9r) 3 (.pointer (some ⟨10, 0 + y * 1, none⟩)) kr kr kr (ld_cell (l := rg1_) (e := 3) (ro := false) (k := y) (j := 0) inC_len kr kr kr hv9r rfl) kr ?_
    refine sq_run 3 ?_
    refine sq_ix 118 (.pointer (some ⟨11, 0 + y * 1, none⟩)) y C0_.length kr kr kr (by omega) kr ?_
    refine sq_ld 119 (.int .i64 v9s) 3 (.pointer (some ⟨11, 0 + y * 1, none⟩)) kr kr kr (ld_cell (l := sl1_) (e := 3) (ro := false) (k := y) (j := 0) inC_len kr kr kr hv9s rfl) kr ?_
    refine sq_ix 120 (.pointer (some ⟨17, 0 + x * 1, none⟩)) x C0_.length kr kr kr (by omega) kr ?_
    refine sq_st 3 17 (0 + x * 1) (.int .i64 v9r) (tab inC (((rg1_).set x (-1)).set x v9r)) (cells := tab inC ((rg1_).set x (-1))) (e := 3) kr kr kr kr kr kr (st_cell (k := x) (j := 0) (a' := v9r) inC_len kr kr hz9r kr rfl) ⟨kr, kr, kr⟩ ?_
    refine sq_ix 121 (.pointer (some ⟨19, 0 + x * 1, none⟩)) x C0_.length kr kr kr (by omega) kr ?_
    refine sq_st 3 19 (0 + x * 1) (.int .i64 v9s) (tab inC (((sl1_).set x (-1)).set x v9s)) (cells := tab inC ((sl1_).set x (-1))) (e := 3) kr kr kr kr kr kr (st_cell (k := x) (j := 0) (a' := v9s) inC_len kr kr hz9s kr rfl) ⟨kr, kr, kr⟩ ?_
    refine sq_end kr ?_
    refine sd_run 7 (sd_see 124 (.bool true) (see_bool (x := ((x : Int) != (y : Int))) kr (bne_iff_ne.2 (by omega))) (sd_run 3 (sd_ix 128 (.pointer (some ⟨13, 0 + x * 3, none⟩)) x C0_.length kr kr kr (by omega) (sd_ld 129 (.agg #[.int .i64 a3.1, .int .i64 a3.2.1, .int .i64 a3.2.2]) 53 (.pointer (some ⟨13, 0 + x * 3, none⟩)) kr kr kr (ld_row (l := ofL C0_ OD0_ [] fl10_ (-1)) (e := 53) (ro := false) (k := x) ivC_len kr kr kr ha3) (sd_run 2 (sd_ix 132 (.pointer (some ⟨13, 0 + y * 3, none⟩)) y C0_.length kr kr kr (by omega) (sd_ld 133 (.agg #[.int .i64 a4.1, .int .i64 a4.2.1, .int .i64 a4.2.2]) 53 (.pointer (some ⟨13, 0 + y * 3, none⟩)) kr kr kr (ld_row (l := ofL C0_ OD0_ [] fl10_ (-1)) (e := 53) (ro := false) (k := y) ivC_len kr kr kr ha4) ?_)))))))
    refine sdCp 134 18 #[.agg #[.int .i64 a3.1, .int .i64 a3.2.1, .int .i64 a3.2.2], .agg #[.int .i64 a4.1, .int .i64 a4.2.1, .int .i64 a4.2.2]] (@meetR_s a3.1 a3.2.1 a3.2.2 a4.1 a4.2.1 a4.2.2 ) [] True.intro ?_
    rintro v9 k9 ⟨rfl, rfl⟩
    refine ⟨rfl, .bool (meetB (a3.1, a3.2.1, a3.2.2) (a4.1, a4.2.1, a4.2.2)), kr, ?_⟩
    refine sd_see 134 (.bool false) (see_bool kr hmt) (sd_run 17 (sdCp 145 12 #[(pgV (s5 7 C0_.length) nd10_ 0 6 0 (s1 8 OD0_.length) (.slice none 0 0) fl10_ 0 (-1) 0 0 1 (C0_.length : Int)), .agg #[.slice (some ⟨10, 0, none⟩) C0_.length C0_.length, .slice (some ⟨11, 0, none⟩) C0_.length C0_.length, .int .i64 slots1_], .int .i64 (k : Int)] (@pright_s C0_ OD0_ [] nd10_ 0 6 0 fl10_ 0 (-1) 0 0 1 rg1_ sl1_ slots1_ k C0_.length C0_.length q1_0 (by omega) (by omega) (by first | omega | (simp; done) | (simp; omega)) q1_1 (by first | omega | (simp; done) | (simp; omega)) (by first | omega | (simp; done) | (simp; omega)) (by omega) hk9) [some 7, some 8, none, some 10, some 11] ⟨iiC_b, inC_b, rfl, inC_b, inC_b, ⟨⟩⟩ ?_))
    rintro v9 k9 ⟨rfl, rfl⟩
    refine ⟨rfl, .bool (planB (ofL C0_ OD0_ [] fl10_ (-1)) k rg1_ sl1_ slots1_), kr, ?_⟩
    refine sd_see 145 (.bool true) (see_bool kr (PlanN.right (by rw [ofL_len]; exact q2_0))) (sd_run 1 (sd_ask 147 (.bool true) 9 #[] kr kr kr rfl (sd_run 5 ?_)))
    refine sdY (.bool true) hX [(inCo xa true), (inCo xb true), (inCo xd true), (uCo d true), (uCo r true)] i5_ ⟨inC_b, inC_b, inC_b, uC_b, uC_b, ⟨⟩⟩ ⟨rfl, rfl⟩
end Ls
end Go.Proofs.Ytegjicaoemhhlaa
