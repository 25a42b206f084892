/- Chapter 19: blocks that are drawn: one thing is wrong. -/
import Derived.Test.YtgpphhdndmdlgaaDoorKs
namespace Go.Proofs.YtgpphhdndmdlgaaDoor
open Go Go.Ev Go.RowKit
set_option linter.unusedVariables false
set_option linter.unusedSimpArgs false
set_option maxRecDepth 100000
namespace Ls
noncomputable def f12b : Code := Tryd.f12.body.getD .skip
theorem f12_body : Tryd.f12.body = some f12b := by kernel_rfl
theorem f12_fn : T20.fn 12 = some Tryd.f12 := by kernel_rfl
set_option maxHeartbeats 4000000 in
theorem spoilt_s {c : List II} {od rd : List Int} {nd nr hd hr fl nx tg br tk ct vs : Int} {xo xa xb xi xd xr : List Int} {e6 e7 e8 e9 e10 e11 e12 e13 e14 e15 e17 : Int} {e16 : Bool} (hvs : -1000 ≤ vs ∧ vs ≤ 1000) (hcl : c.length < 1000) (hol : od.length < 1000) (hi : (∀ x ∈ c, ok5 x)) : SCall Tryd.prog T20 12 #[(pgV (s5 0 c.length) nd nr hd hr (s1 1 od.length) (s1 2 rd.length) fl nx tg br tk ct vs), .agg #[(s1 3 xo.length), (s1 4 xa.length), (s1 5 xb.length), (s1 6 xi.length), (s1 7 xd.length), (s1 8 xr.length), .int .i64 e6, .int .i64 e7, .int .i64 e8, .int .i64 e9, .int .i64 e10, .int .i64 e11, .int .i64 e12, .int .i64 e13, .int .u32 e14, .int .u32 e15, .bool e16, .int .i64 e17]] (hq [(iiCo c false), (inCo od false), (inCo rd false), (inCo xo true), (inCo xa true), (inCo xb true), (uCo xi true), (inCo xd true), (inCo xr true)]) fun v h => ∃ (nd1 nr1 hd1 hr1 fl1 nx1 tg1 br1 tk1 ct1 vs1 : Int) (nC : Nat) (C : List II) (OD RD : List Int), C.length = nC ∧ nC = c.length ∧ OD.length ≤ od.length + 1 ∧ RD.length = rd.length ∧ (∀ x ∈ C, ok5 x) ∧ v = (pgV (s5 9 nC) nd1 nr1 hd1 hr1 (s1 10 OD.length) (s1 11 RD.length) fl1 nx1 tg1 br1 tk1 ct1 vs1) ∧ h = hq [none, none, none, (inCo xo true), (inCo xa true), (inCo xb true), (uCo xi true), (inCo xd true), (inCo xr true), (iiCo C false), (inCo OD false), (inCo RD false)] := by
 refine scall_sd 96 _ 9 kr f12_fn f12_body rfl rfl rfl fun X hX => ?_
 refine sd_run 16 (sd_mid 96 (cl (cr (cr f12b))) [.next (cr (cr (cr f12b)))] kr kr kr (fun s9 => ∃ (nd1 : Int) (nr1 : Int) (hd1 : Int) (hr1 : Int) (fl1 : Int) (nx1 : Int) (tg1 : Int) (br1 : Int) (tk1 : Int) (ct1 : Int) (vs1 : Int) (OD : List Int), (OD.length ≤ od.length + 1) ∧ s9 = ⟨tmL [(2, .pointer (some ⟨9, 0, none⟩)), (3, .pointer (some ⟨10, 0, none⟩)), (4, .pointer (some ⟨11, 0, none⟩)), (5, .int .i64 (c.length : Int))], hq [(iiCo c false), none, (inCo rd false), (inCo xo true), (inCo xa true), (inCo xb true), (uCo xi true), (inCo xd true), (inCo xr true), some ⟨(pgL (s5 0 c.length) nd1 nr1 hd1 hr1 (s1 14 OD.length) (s1 2 rd.length) fl1 nx1 tg1 br1 tk1 ct1 vs1), 32, false⟩, some ⟨[(s1 3 xo.length), (s1 4 xa.length), (s1 5 xb.length), (s1 6 xi.length), (s1 7 xd.length), (s1 8 xr.length), .int .i64 e6, .int .i64 e7, .int .i64 e8, .int .i64 e9, .int .i64 e10, .int .i64 e11, .int .i64 e12, .int .i64 e13, .int .u32 e14, .int .u32 e15, .bool e16, .int .i64 e17], 26, false⟩, some ⟨pg0, 32, false⟩, none, none, (inCo OD false)]⟩) hX ?_ ?_)
 ·intro R1_ hR1_
  refine sd_run 13 ?_
  rcases Bool.eq_false_or_eq_true ((e17 : Int) == 1) with hc1 | hc1
  ·skip
   refine sd_see 11 (.bool true) (see_bool kr hc1) (sd_run 5 (sd_see 15 (.int .i64 (vs + 1)) (see_int (x := (IntKind.i64.wrap (vs + 1))) kr (w64 (by omega) (by omega) (by omega))) (sd_run 4 ?_)))
   refine sd_inv R1_ kr (hR1_ _ _ (emOf [some 0, some 1, some 2, some 3, some 4, some 5, some 6, some 7, some 8, some 9, some 10, some 11, none, none, some 1]) ⟨nd, nr, hd, hr, fl, nx, tg, br, tk, ct, (vs + 1), od, (by omega), rfl⟩ ⟨sub_of kr kr ⟨iiC_b, inC_b, inC_b, inC_b, inC_b, uC_b, inC_b, inC_b, brn, brn, brn, inC_b, ⟨⟩⟩, te_of kr kr⟩ kr)
  ·skip
   refine sd_see 11 (.bool false) (see_bool kr hc1) (sd_run 7 ?_)
   rcases Bool.eq_false_or_eq_true ((e17 : Int) == 2) with hc2 | hc2
   ·skip
    refine sd_see 17 (.bool true) (see_bool kr hc2) (sd_run 6 ?_)
    refine sd_inv R1_ kr (hR1_ _ _ (emOf [some 0, some 1, some 2, some 3, some 4, some 5, some 6, some 7, some 8, some 9, some 10, some 11, none, none, some 1]) ⟨nd, nr, hd, hr, fl, nx, tg, br, tk, 9, vs, od, (by omega), rfl⟩ ⟨sub_of kr kr ⟨iiC_b, inC_b, inC_b, inC_b, inC_b, uC_b, inC_b, inC_b, brn, brn, brn, inC_b, ⟨⟩⟩, te_of kr kr⟩ kr)
   ·skip
    refine sd_see 17 (.bool false) (see_bool kr hc2) (sd_run 7 ?_)
    rcases Bool.eq_false_or_eq_true ((e17 : Int) == 3) with hc3 | hc3
    ·skip
     refine sd_see 20 (.bool true) (see_bool kr hc3) (sd_run 6 ?_)
     refine sd_inv R1_ kr (hR1_ _ _ (emOf [some 0, some 1, some 2, some 3, some 4, some 5, some 6, some 7, some 8, some 9, some 10, some 11, none, none, some 1]) ⟨17, nr, hd, hr, fl, nx, tg, br, tk, ct, vs, od, (by omega), rfl⟩ ⟨sub_of kr kr ⟨iiC_b, inC_b, inC_b, inC_b, inC_b, uC_b, inC_b, inC_b, brn, brn, brn, inC_b, ⟨⟩⟩, te_of kr kr⟩ kr)
    ·skip
     refine sd_see 20 (.bool false) (see_bool kr hc3) (sd_run 7 ?_)
     rcases Bool.eq_false_or_eq_true ((e17 : Int) == 4) with hc4 | hc4
     ·skip
      refine sd_see 23 (.bool true) (see_bool kr hc4) (sd_run 6 (sd_grow 29 22 22 3 0 7 1 od.length 1 13 (.slice (some ⟨12, 0, none⟩) 1 1) (tab inC od) [Value.int .i64 (c.length : Int)] (tab inC (od ++ [(c.length : Int)])) kr kr kr kr kr ((tab_len inC_len _).trans (by first | rfl | (simp only [List.length_append, List.length_cons, List.length_nil, List.length_set] at *; done))) kr kr (by decide) kr (by omega) kr (tab_snoc od (c.length : Int)) (sd_see 29 (s1 13 ((od ++ [(c.length : Int)]).length)) (see_len (n := (od.length + 1)) kr (by simp)) (sd_run 4 ?_))))
      refine sd_inv R1_ kr (hR1_ _ _ (emOf [some 0, some 1, some 2, some 3, some 4, some 5, some 6, some 7, some 8, some 9, some 10, some 11, none, none, some 13]) ⟨nd, nr, hd, hr, fl, nx, tg, br, tk, ct, vs, (od ++ [(c.length : Int)]), (by simp), rfl⟩ ⟨sub_of kr kr ⟨iiC_b, inC_b, inC_b, inC_b, inC_b, uC_b, inC_b, inC_b, brn, brn, brn, inC_b, ⟨⟩⟩, te_of kr kr⟩ kr)
     ·skip
      refine sd_see 23 (.bool false) (see_bool kr hc4) (sd_run 7 ?_)
      rcases Bool.eq_false_or_eq_true ((e17 : Int) == 5) with hc5 | hc5
      ·skip
       refine sd_see 31 (.bool true) (see_bool kr hc5) (sd_run 7 ?_)
       refine sd_inv R1_ kr (hR1_ _ _ (emOf [some 0, some 1, some 2, some 3, some 4, some 5, some 6, some 7, some 8, some 9, some 10, some 11, none, none, some 1]) ⟨nd, nr, hd, hr, (c.length : Int), nx, tg, br, tk, ct, vs, od, (by omega), rfl⟩ ⟨sub_of kr kr ⟨iiC_b, inC_b, inC_b, inC_b, inC_b, uC_b, inC_b, inC_b, brn, brn, brn, inC_b, ⟨⟩⟩, te_of kr kr⟩ kr)
      ·skip
       refine sd_see 31 (.bool false) (see_bool kr hc5) (sd_run 7 ?_)
       rcases Bool.eq_false_or_eq_true ((e17 : Int) == 6) with hc6 | hc6
       ·skip
        refine sd_see 35 (.bool true) (see_bool kr hc6) (sd_run 6 ?_)
        refine sd_inv R1_ kr (hR1_ _ _ (emOf [some 0, some 1, some 2, some 3, some 4, some 5, some 6, some 7, some 8, some 9, some 10, some 11, none, none, some 1]) ⟨nd, nr, hd, hr, fl, nx, (-2), br, tk, ct, vs, od, (by omega), rfl⟩ ⟨sub_of kr kr ⟨iiC_b, inC_b, inC_b, inC_b, inC_b, uC_b, inC_b, inC_b, brn, brn, brn, inC_b, ⟨⟩⟩, te_of kr kr⟩ kr)
       ·skip
        refine sd_see 35 (.bool false) (see_bool kr hc6) (sd_run 7 ?_)
        rcases Bool.eq_false_or_eq_true ((e17 : Int) == 7) with hc7 | hc7
        ·skip
         refine sd_see 38 (.bool true) (see_bool kr hc7) (sd_run 6 ?_)
         refine sd_inv R1_ kr (hR1_ _ _ (emOf [some 0, some 1, some 2, some 3, some 4, some 5, some 6, some 7, some 8, some 9, some 10, some 11, none, none, some 1]) ⟨nd, nr, hd, hr, fl, nx, tg, 32, tk, ct, vs, od, (by omega), rfl⟩ ⟨sub_of kr kr ⟨iiC_b, inC_b, inC_b, inC_b, inC_b, uC_b, inC_b, inC_b, brn, brn, brn, inC_b, ⟨⟩⟩, te_of kr kr⟩ kr)
        ·skip
         refine sd_see 38 (.bool false) (see_bool kr hc7) (sd_run 7 ?_)
         rcases Bool.eq_false_or_eq_true ((e17 : Int) == 8) with hc8 | hc8
         ·skip
          refine sd_see 41 (.bool true) (see_bool kr hc8) (sd_run 6 ?_)
          refine sd_inv R1_ kr (hR1_ _ _ (emOf [some 0, some 1, some 2, some 3, some 4, some 5, some 6, some 7, some 8, some 9, some 10, some 11, none, none, some 1]) ⟨nd, nr, hd, (-1), fl, nx, tg, br, tk, ct, vs, od, (by omega), rfl⟩ ⟨sub_of kr kr ⟨iiC_b, inC_b, inC_b, inC_b, inC_b, uC_b, inC_b, inC_b, brn, brn, brn, inC_b, ⟨⟩⟩, te_of kr kr⟩ kr)
         ·skip
          refine sd_see 41 (.bool false) (see_bool kr hc8) (sd_run 3 ?_)
          refine sd_inv R1_ kr (hR1_ _ _ (emOf [some 0, some 1, some 2, some 3, some 4, some 5, some 6, some 7, some 8, some 9, some 10, some 11, none, none, some 1]) ⟨nd, nr, hd, hr, fl, nx, tg, br, tk, ct, vs, od, (by omega), rfl⟩ ⟨sub_of kr kr ⟨iiC_b, inC_b, inC_b, inC_b, inC_b, uC_b, inC_b, inC_b, brn, brn, brn, inC_b, ⟨⟩⟩, te_of kr kr⟩ kr)
 ·rintro s9 ⟨nd1, nr1, hd1, hr1, fl1, nx1, tg1, br1, tk1, ct1, vs1, OD, j1_0, rfl⟩
  refine sd_run 2 (sd_mid 96 (cl (cr (cr (cr f12b)))) [.next (cr (cr (cr (cr f12b))))] kr kr kr (fun s9 => ∃ (nC : Nat) (C : List II), (C.length = nC) ∧ (nC = c.length) ∧ (∀ x ∈ C, ok5 x) ∧ s9 = ⟨tmL [(2, .pointer (some ⟨9, 0, none⟩)), (3, .pointer (some ⟨10, 0, none⟩)), (4, .pointer (some ⟨11, 0, none⟩)), (5, .int .i64 (c.length : Int))], hq [none, none, (inCo rd false), (inCo xo true), (inCo xa true), (inCo xb true), (uCo xi true), (inCo xd true), (inCo xr true), some ⟨(pgL (s5 18 nC) nd1 nr1 hd1 hr1 (s1 14 OD.length) (s1 2 rd.length) fl1 nx1 tg1 br1 tk1 ct1 vs1), 32, false⟩, some ⟨[(s1 3 xo.length), (s1 4 xa.length), (s1 5 xb.length), (s1 6 xi.length), (s1 7 xd.length), (s1 8 xr.length), .int .i64 e6, .int .i64 e7, .int .i64 e8, .int .i64 e9, .int .i64 e10, .int .i64 e11, .int .i64 e12, .int .i64 e13, .int .u32 e14, .int .u32 e15, .bool e16, .int .i64 e17], 26, false⟩, some ⟨pg0, 32, false⟩, none, none, (inCo OD false), none, none, none, (iiCo C false)]⟩) hX ?_ ?_)
  ·intro R2_ hR2_
   by_cases hc0 : c.length = 0
   ·skip
    refine sd_run 4 (sdF 45 ((c.length : Int) > 0) (by omega) kr (sd_run 4 ?_))
    refine sd_inv R2_ kr (hR2_ _ _ (emOf [some 0, some 1, some 2, some 3, some 4, some 5, some 6, some 7, some 8, some 9, some 10, some 11, none, none, some 14, none, none, none, some 0]) ⟨c.length, c, (by simp), rfl, hi, rfl⟩ ⟨sub_of kr kr ⟨inC_b, inC_b, inC_b, inC_b, uC_b, inC_b, inC_b, brn, brn, brn, inC_b, iiC_b, ⟨⟩⟩, te_of kr kr⟩ kr)
   ·skip
    obtain ⟨m9, hm9⟩ : ∃ m9 : Nat, (c.length : Int) - 1 = m9 := ⟨c.length - 1, by omega⟩
    obtain ⟨x9, hx9⟩ : ∃ x_, c[m9]? = some x_ := ⟨_, List.getElem?_eq_getElem (by omega)⟩
    refine sd_run 4 (sdT 45 ((c.length : Int) > 0) (by omega) kr (sd_run 8 (sd_first0N 49 30 30 41 4 39 15 c.length 16 (s5 0 c.length) (tab iiC c) (tab iiC c) kr kr kr kr kr (asrc_tab (l := c) (e := 41) (ro := false) iiC_len kr rfl) kr (by omega) kr rfl kr (sd_run 17 ?_))))
    rcases Bool.eq_false_or_eq_true ((e17 : Int) == 9) with hc9 | hc9
    ·skip
     refine sd_see 53 (.bool true) (see_bool kr hc9) (sd_run 6 (sd_see 58 (.int .i64 (m9 : Int)) (see_int (x := (IntKind.i64.wrap ((c.length : Int) - 1))) kr (i64w (by omega) (by omega) (by omega))) (sd_ix 59 (.pointer (some ⟨16, 0 + m9 * 5, none⟩)) m9 c.length kr kr kr (by omega) (sd_run 1 (sd_st 3 16 (0 + m9 * 5 + 1) (.int .i64 0) (tab iiC ((c).set m9 (x9.1, 0, x9.2.2.1, x9.2.2.2.1, x9.2.2.2.2))) (cells := tab iiC c) (e := 41) kr kr kr kr (st_cell (k := m9) (j := 1) (a' := (x9.1, 0, x9.2.2.1, x9.2.2.2.1, x9.2.2.2.2)) iiC_len kr kr hx9 kr rfl) (sd_run 2 ?_))))))
     refine sd_inv R2_ kr (hR2_ _ _ (emOf [some 0, some 1, some 2, some 3, some 4, some 5, some 6, some 7, some 8, some 9, some 10, some 11, none, none, some 14, none, none, none, some 16]) ⟨c.length, ((c).set m9 (x9.1, 0, x9.2.2.1, x9.2.2.2.1, x9.2.2.2.2)), (by simp), rfl, (imm_set hi (by have := hi _ (List.mem_of_getElem? hx9); simp only [ok5] at this ⊢; omega)), rfl⟩ ⟨sub_of kr kr ⟨inC_b, inC_b, inC_b, inC_b, uC_b, inC_b, inC_b, brn, brn, brn, inC_b, iiC_b, ⟨⟩⟩, te_of kr kr⟩ kr)
    ·skip
     refine sd_see 53 (.bool false) (see_bool kr hc9) (sd_run 7 ?_)
     rcases Bool.eq_false_or_eq_true ((e17 : Int) == 10) with hc10 | hc10
     ·skip
      refine sd_see 61 (.bool true) (see_bool kr hc10) (sd_run 6 (sd_see 66 (.int .i64 (m9 : Int)) (see_int (x := (IntKind.i64.wrap ((c.length : Int) - 1))) kr (i64w (by omega) (by omega) (by omega))) (sd_run 2 (sd_see 68 (.int .i64 (m9 : Int)) (see_int (x := (IntKind.i64.wrap ((c.length : Int) - 1))) kr (i64w (by omega) (by omega) (by omega))) (sd_ix 69 (.pointer (some ⟨16, 0 + m9 * 5, none⟩)) m9 c.length kr kr kr (by omega) (sd_run 1 (sd_st 3 16 (0 + m9 * 5 + 2) (.int .i64 (m9 : Int)) (tab iiC ((c).set m9 (x9.1, x9.2.1, (m9 : Int), x9.2.2.2.1, x9.2.2.2.2))) (cells := tab iiC c) (e := 41) kr kr kr kr (st_cell (k := m9) (j := 2) (a' := (x9.1, x9.2.1, (m9 : Int), x9.2.2.2.1, x9.2.2.2.2)) iiC_len kr kr hx9 kr rfl) ?_)))))))
      refine sd_run 2 ?_
      refine sd_inv R2_ kr (hR2_ _ _ (emOf [some 0, some 1, some 2, some 3, some 4, some 5, some 6, some 7, some 8, some 9, some 10, some 11, none, none, some 14, none, none, none, some 16]) ⟨c.length, ((c).set m9 (x9.1, x9.2.1, (m9 : Int), x9.2.2.2.1, x9.2.2.2.2)), (by simp), rfl, (imm_set hi (by have := hi _ (List.mem_of_getElem? hx9); simp only [ok5] at this ⊢; omega)), rfl⟩ ⟨sub_of kr kr ⟨inC_b, inC_b, inC_b, inC_b, uC_b, inC_b, inC_b, brn, brn, brn, inC_b, iiC_b, ⟨⟩⟩, te_of kr kr⟩ kr)
     ·skip
      refine sd_see 61 (.bool false) (see_bool kr hc10) (sd_run 7 ?_)
      rcases Bool.eq_false_or_eq_true ((e17 : Int) == 11) with hc11 | hc11
      ·skip
       refine sd_see 71 (.bool true) (see_bool kr hc11) (sd_run 6 (sd_see 76 (.int .i64 (m9 : Int)) (see_int (x := (IntKind.i64.wrap ((c.length : Int) - 1))) kr (i64w (by omega) (by omega) (by omega))) (sd_ix 77 (.pointer (some ⟨16, 0 + m9 * 5, none⟩)) m9 c.length kr kr kr (by omega) (sd_run 1 (sd_st 3 16 (0 + m9 * 5) (.int .i64 9) (tab iiC ((c).set m9 (9, x9.2.1, x9.2.2.1, x9.2.2.2.1, x9.2.2.2.2))) (cells := tab iiC c) (e := 41) kr kr kr kr (st_cell (k := m9) (j := 0) (a' := (9, x9.2.1, x9.2.2.1, x9.2.2.2.1, x9.2.2.2.2)) iiC_len kr kr hx9 kr rfl) (sd_run 2 ?_))))))
       refine sd_inv R2_ kr (hR2_ _ _ (emOf [some 0, some 1, some 2, some 3, some 4, some 5, some 6, some 7, some 8, some 9, some 10, some 11, none, none, some 14, none, none, none, some 16]) ⟨c.length, ((c).set m9 (9, x9.2.1, x9.2.2.1, x9.2.2.2.1, x9.2.2.2.2)), (by simp), rfl, (imm_set hi (by have := hi _ (List.mem_of_getElem? hx9); simp only [ok5] at this ⊢; omega)), rfl⟩ ⟨sub_of kr kr ⟨inC_b, inC_b, inC_b, inC_b, uC_b, inC_b, inC_b, brn, brn, brn, inC_b, iiC_b, ⟨⟩⟩, te_of kr kr⟩ kr)
      ·skip
       refine sd_see 71 (.bool false) (see_bool kr hc11) (sd_run 7 ?_)
       rcases Bool.eq_false_or_eq_true ((e17 : Int) == 12) with hc12 | hc12
       ·skip
        refine sd_see 79 (.bool true) (see_bool kr hc12) (sd_run 6 (sd_see 84 (.int .i64 (m9 : Int)) (see_int (x := (IntKind.i64.wrap ((c.length : Int) - 1))) kr (i64w (by omega) (by omega) (by omega))) (sd_ix 85 (.pointer (some ⟨16, 0 + m9 * 5, none⟩)) m9 c.length kr kr kr (by omega) (sd_run 1 (sd_st 24 16 (0 + m9 * 5 + 4) (.int .u32 200) (tab iiC ((c).set m9 (x9.1, x9.2.1, x9.2.2.1, x9.2.2.2.1, 200))) (cells := tab iiC c) (e := 41) kr kr kr kr (st_cell (k := m9) (j := 4) (a' := (x9.1, x9.2.1, x9.2.2.1, x9.2.2.2.1, 200)) iiC_len kr kr hx9 kr rfl) (sd_run 2 ?_))))))
        refine sd_inv R2_ kr (hR2_ _ _ (emOf [some 0, some 1, some 2, some 3, some 4, some 5, some 6, some 7, some 8, some 9, some 10, some 11, none, none, some 14, none, none, none, some 16]) ⟨c.length, ((c).set m9 (x9.1, x9.2.1, x9.2.2.1, x9.2.2.2.1, 200)), (by simp), rfl, (imm_set hi (by have := hi _ (List.mem_of_getElem? hx9); simp only [ok5] at this ⊢; omega)), rfl⟩ ⟨sub_of kr kr ⟨inC_b, inC_b, inC_b, inC_b, uC_b, inC_b, inC_b, brn, brn, brn, inC_b, iiC_b, ⟨⟩⟩, te_of kr kr⟩ kr)
       ·skip
        refine sd_see 79 (.bool false) (see_bool kr hc12) (sd_run 7 ?_)
        rcases Bool.eq_false_or_eq_true ((e17 : Int) == 13) with hc13 | hc13
        ·skip
         refine sd_see 87 (.bool true) (see_bool kr hc13) (sd_run 6 (sd_see 92 (.int .i64 (m9 : Int)) (see_int (x := (IntKind.i64.wrap ((c.length : Int) - 1))) kr (i64w (by omega) (by omega) (by omega))) (sd_ix 93 (.pointer (some ⟨16, 0 + m9 * 5, none⟩)) m9 c.length kr kr kr (by omega) (sd_run 1 (sd_st 3 16 (0 + m9 * 5 + 3) (.int .i64 (-1)) (tab iiC ((c).set m9 (x9.1, x9.2.1, x9.2.2.1, (-1), x9.2.2.2.2))) (cells := tab iiC c) (e := 41) kr kr kr kr (st_cell (k := m9) (j := 3) (a' := (x9.1, x9.2.1, x9.2.2.1, (-1), x9.2.2.2.2)) iiC_len kr kr hx9 kr rfl) (sd_run 2 ?_))))))
         refine sd_inv R2_ kr (hR2_ _ _ (emOf [some 0, some 1, some 2, some 3, some 4, some 5, some 6, some 7, some 8, some 9, some 10, some 11, none, none, some 14, none, none, none, some 16]) ⟨c.length, ((c).set m9 (x9.1, x9.2.1, x9.2.2.1, (-1), x9.2.2.2.2)), (by simp), rfl, (imm_set hi (by have := hi _ (List.mem_of_getElem? hx9); simp only [ok5] at this ⊢; omega)), rfl⟩ ⟨sub_of kr kr ⟨inC_b, inC_b, inC_b, inC_b, uC_b, inC_b, inC_b, brn, brn, brn, inC_b, iiC_b, ⟨⟩⟩, te_of kr kr⟩ kr)
        ·skip
         refine sd_see 87 (.bool false) (see_bool kr hc13) (sd_run 3 ?_)
         refine sd_inv R2_ kr (hR2_ _ _ (emOf [some 0, some 1, some 2, some 3, some 4, some 5, some 6, some 7, some 8, some 9, some 10, some 11, none, none, some 14, none, none, none, some 16]) ⟨c.length, c, (by simp), rfl, hi, rfl⟩ ⟨sub_of kr kr ⟨inC_b, inC_b, inC_b, inC_b, uC_b, inC_b, inC_b, brn, brn, brn, inC_b, iiC_b, ⟨⟩⟩, te_of kr kr⟩ kr)
  ·rintro s9 ⟨nC, C, j2_0, j2_1, j2_2, rfl⟩
   refine sd_run 8 ?_
   refine sdZ (pgV (s5 18 nC) nd1 nr1 hd1 hr1 (s1 14 OD.length) (s1 2 rd.length) fl1 nx1 tg1 br1 tk1 ct1 vs1) hX (pgV (s5 9 nC) nd1 nr1 hd1 hr1 (s1 10 OD.length) (s1 11 rd.length) fl1 nx1 tg1 br1 tk1 ct1 vs1) [none, none, none, (inCo xo true), (inCo xa true), (inCo xb true), (uCo xi true), (inCo xd true), (inCo xr true), (iiCo C false), (inCo OD false), (inCo rd false)] [some 0, some 1, some 2, some 3, some 4, some 5, some 6, some 7, some 8, some 18, some 14, some 2] ⟨inC_b, inC_b, inC_b, uC_b, inC_b, inC_b, iiC_b, inC_b, inC_b, ⟨⟩⟩ ⟨nd1, nr1, hd1, hr1, fl1, nx1, tg1, br1, tk1, ct1, vs1, nC, C, OD, rd, j2_0, j2_1, j1_0, rfl, j2_2, rfl, rfl⟩
end Ls
end Go.Proofs.YtgpphhdndmdlgaaDoor
