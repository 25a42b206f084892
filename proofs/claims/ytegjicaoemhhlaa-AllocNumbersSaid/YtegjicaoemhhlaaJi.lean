/- Chapter 21: blocks of arguments, constants and sums. -/
import Derived.Test.YtegjicaoemhhlaaJg
namespace Go.Proofs.Ytegjicaoemhhlaa
open Go Go.Ev Go.RowKit
set_option linter.unusedVariables false
set_option linter.unusedSimpArgs false
set_option maxRecDepth 100000
namespace Ls
theorem imm_app {c : List II} {x : II} (h : ∀ x ∈ c, 0 ≤ x.2.2.2.2 ∧ x.2.2.2.2 < 4294967296) (hx : 0 ≤ x.2.2.2.2 ∧ x.2.2.2.2 < 4294967296) : ∀ y ∈ c ++ [x], 0 ≤ y.2.2.2.2 ∧ y.2.2.2.2 < 4294967296 := fun y hy => by
 rcases List.mem_append.1 hy with h1 | h1
 ·exact h y h1
 ·simp at h1; subst h1; exact hx
theorem u32w_in (x : Int) : 0 ≤ IntKind.u32.wrap x ∧ IntKind.u32.wrap x < 4294967296 := by rw [IntKind.wrap_u32]; omega
theorem within_in (n : Int) {k : Int} (h : 0 < k) : 0 ≤ (0 + n % ((k - 1) - 0 + 1)) ∧ (0 + n % ((k - 1) - 0 + 1)) < k := by
 rw [show (k - 1) - 0 + 1 = k by omega]
 have a := Int.emod_nonneg n (by omega : k ≠ 0)
 have b := Int.emod_lt_of_pos n h
 omega
theorem made_const (nd k im : Int) : madeB nd 0 (0, k, 0, 0, im) k = true := by simp [madeB]
theorem made_arg {nd k : Int} (h : k < nd) : madeB nd 0 (1, k, 0, 0, k) k = true := by simp [madeB, h]
theorem made_alu {nd k a b im : Int} (ha : 0 ≤ a ∧ a < k) (hb : 0 ≤ b ∧ b < k) (hi : 16 ≤ im ∧ im ≤ 23) : madeB nd 0 (3, k, a, b, im) k = true := by simp [madeB, valB, ha, hb, hi]
theorem made_flag {nd k a b : Int} (ha : 0 ≤ a ∧ a < k) (hb : 0 ≤ b ∧ b < k) : madeB nd 0 (4, k, a, b, 25) k = true := by simp [madeB, valB, ha, hb]
theorem half_in {n : Nat} (h : n ≤ 40) : IntKind.i64.wrap (Int.tdiv (n : Int) 2) = (n : Int) / 2 := by
 rw [Int.tdiv_eq_ediv_of_nonneg (by omega)]
 exact w64 rfl (by omega) (by omega)
def MadeC (nd : Int) (c : List II) : Prop := ∀ (k : Nat) (x : II), c[k]? = some x → madeB nd 0 x k = true
theorem madeC_nil (nd : Int) : MadeC nd [] := fun k x h => by simp at h
theorem MadeC.app {nd : Int} {c : List II} {x : II} {n : Nat} (h : MadeC nd c) (hn : c.length = n) (hx : madeB nd 0 x n = true) : MadeC nd (c ++ [x]) := fun k y hy => by
 rw [List.getElem?_append] at hy
 split at hy
 ·exact h k y hy
 ·have := (List.getElem?_eq_some_iff.1 hy).1
  simp at this
  rw [show k - c.length = 0 by omega] at hy
  simp at hy; subst hy
  rw [show k = n by omega]; exact hx
def ValC (n : Int) (l : List Int) : Prop := ∀ x ∈ l, 0 ≤ x ∧ x < n
theorem valC_nil (n : Int) : ValC n [] := fun x h => by cases h
theorem ValC.app {n : Int} {l : List Int} {x : Int} (h : ValC n l) (hx : 0 ≤ x ∧ x < n) : ValC n (l ++ [x]) := fun y hy => by
 rcases List.mem_append.1 hy with q | q
 ·exact h y q
 ·simp at q; subst q; exact hx
theorem sum_right {c : List II} {od : List Int} {nd fl : Int} (hc : MadeC nd c) (hl : c.length ≤ 40) (hd : 0 ≤ nd ∧ nd ≤ 6) (ho : ValC (c.length : Int) od) (hf : fl = -1 ∨ (0 ≤ fl ∧ fl < (c.length : Int))) : RightP c od [] nd 0 6 0 fl (-1) 0 1 (c.length : Int) where
 vs_ := rfl
 len := by omega
 nd_ := by omega
 nr_ := by decide
 hd_ := by decide
 hr_ := by decide
 ct_ := by decide
 code := hc
 od_ := fun k x h => by have := ho x (List.mem_of_getElem? h); simp [valB]; omega
 rd_ := fun k x h => by simp at h
 fl_ := hf.imp id fun q => by simp [valB]; omega
 tg_ := .inl rfl
 br_ := .inl rfl
noncomputable def f8b : Code := Try.f8.body.getD .skip
theorem f8_body : Try.f8.body = some f8b := by kernel_rfl
theorem f8_fn : T16.fn 8 = some Try.f8 := by kernel_rfl
set_option maxHeartbeats 4000000 in
theorem sum_s {xa xb xd : List Int} {e3 : Int} {ro : Bool} (hx0 : ∀ x ∈ xa, i64B x = true) (hx1 : ∀ x ∈ xb, i64B x = true) (hx2 : ∀ x ∈ xd, i64B x = true) (he3 : i64B e3 = true) (hl0 : xa.length ≤ 9223372036854775807) (hl1 : xb.length ≤ 9223372036854775807) (hl2 : xd.length ≤ 9223372036854775807) : SCall Try.prog T16 8 #[.agg #[(s1 0 xa.length), (s1 1 xb.length), (s1 2 xd.length), .int .i64 e3]] (hq [(inCo xa ro), (inCo xb ro), (inCo xd ro)]) fun v h => ∃ (nd1 fl1 : Int) (C : List II) (OD : List Int), RightP C OD [] nd1 0 6 0 fl1 (-1) 0 1 (C.length : Int) ∧ (∀ x ∈ C, 0 ≤ x.2.2.2.2 ∧ x.2.2.2.2 < 4294967296) ∧ OD.length ≤ 9 ∧ C.length ≤ 40 ∧ v = (pgV (s5 3 C.length) nd1 0 6 0 (s1 4 OD.length) (.slice none 0 0) fl1 0 (-1) 0 0 1 (C.length : Int)) ∧ h = hq [(inCo xa ro), (inCo xb ro), (inCo xd ro), (iiCo C false), (inCo OD false)] := by
 simp only [i64B, Bool.and_eq_true, decide_eq_true_eq] at he3
 refine scall_sd 159 _ 3 kr f8_fn f8_body rfl rfl rfl fun X hX => ?_
 refine sd_run 10 (sd_ask 9 (.int .i64 (0 + e3 % (6 - 0 + 1))) 10 #[.int .i64 e3, .int .i64 0, .int .i64 6] kr kr kr (orc10 e3 0 6 (inB_of (by first | omega | (simp only [bd] at *; omega)) (by first | omega | (simp only [bd] at *; omega)) (by first | omega | (simp only [bd] at *; omega)) (by first | omega | (simp only [bd] at *; omega)))) (sd_run 12 ?_))
 obtain ⟨nd, hnd⟩ : ∃ x, x = (0 + e3 % (6 - 0 + 1)) := ⟨_, rfl⟩
 have hn9 : 0 ≤ nd ∧ nd ≤ 6 := by omega
 obtain ⟨N, hN⟩ : ∃ N, N = min (min xa.length xb.length) 40 := ⟨_, rfl⟩
 refine sd_loop 159 (cl (cl (cr (cl (cr (cr f8b)))))) [.blk 0, .next (cr (cr (cr f8b)))] kr kr kr (fun m9 s9 => ∃ (k : Nat) (c : List II), m9 = N - k ∧ (k ≤ N) ∧ (c.length = k) ∧ (MadeC nd c) ∧ (∀ x ∈ c, 0 ≤ x.2.2.2.2 ∧ x.2.2.2.2 < 4294967296) ∧ s9 = ⟨tmL [(1, .pointer (some ⟨3, 0, none⟩)), (2, .pointer (some ⟨4, 0, none⟩)), (3, .pointer (some ⟨5, 0, none⟩)), (4, .int .i64 (k : Int))], hq [(inCo xa ro), (inCo xb ro), (inCo xd ro), some ⟨[(s1 0 xa.length), (s1 1 xb.length), (s1 2 xd.length), .int .i64 e3], 24, false⟩, some ⟨[Value.slice none 0 0, .int .i64 0, .int .i64 0, .int .i64 0, .int .i64 0, .slice none 0 0, .slice none 0 0, .int .i64 0, .int .u32 0, .int .i64 0, .int .i64 0, .int .u32 0, .int .i64 0, .int .i64 0], 29, false⟩, some ⟨[(s5 6 c.length), .int .i64 (0 + e3 % (6 - 0 + 1)), .int .i64 0, .int .i64 6, .int .i64 0, .slice none 0 0, .slice none 0 0, .int .i64 (-1), .int .u32 0, .int .i64 (-1), .int .i64 0, .int .u32 0, .int .i64 1, .int .i64 0], 29, false⟩, (iiCo c false)]⟩) (N - 0) _ (emOf [some 0, some 1, some 2, some 3, some 4, some 5, none]) hX ⟨0, [], rfl, (by omega), rfl, (madeC_nil _), (fun x hx => by cases hx), rfl⟩ ⟨sub_of kr kr ⟨inC_b, inC_b, inC_b, brn, brn, brn, rfl, ⟨⟩⟩, te_of kr kr⟩ kr ?_
 rintro m9 s9 ⟨k, c, rfl, i1_0, i1_1, i1_2, i1_3, rfl⟩ R1_ hR1_
 by_cases hlt : k < N
 ·skip
  obtain ⟨a1, ha1⟩ : ∃ x_, (xa)[k]? = some x_ := ⟨_, List.getElem?_eq_getElem (by omega)⟩
  have ia1 := hx0 _ (List.mem_of_getElem? ha1)
  simp only [i64B, Bool.and_eq_true, decide_eq_true_eq] at ia1
  obtain ⟨a2, ha2⟩ : ∃ x_, (xb)[k]? = some x_ := ⟨_, List.getElem?_eq_getElem (by omega)⟩
  have ia2 := hx1 _ (List.mem_of_getElem? ha2)
  simp only [i64B, Bool.and_eq_true, decide_eq_true_eq] at ia2
  by_cases hkd : (k : Int) < (0 + e3 % (6 - 0 + 1))
  ·skip
   refine sd_run 8 (sdT 15 ((k : Int) < (xa.length : Int)) (by omega) kr (sd_run 6 (sdT 21 ((k : Int) < (xb.length : Int)) (by omega) kr (sd_run 4 (sdT 25 ((k : Int) < 40) (by omega) kr (sd_run 28 (sd_see 34 (.bool true) (see_bool (x := (decide ((k : Int) < (0 + e3 % (6 - 0 + 1))))) kr (decide_eq_true (by omega))) ?_)))))))
   refine sd_run 7 (sd_see 41 (.int .u32 (k : Int)) (see_int (x := (IntKind.u32.wrap (k : Int))) kr (wu32 rfl (by omega) (by omega))) (sd_run 10 (sd_grow 115 26 26 61 4 39 6 c.length 1 9 (.slice (some ⟨8, 0, none⟩) 1 1) (tab iiC c) [Value.int .i64 1, .int .i64 (k : Int), .int .i64 0, .int .i64 0, .int .u32 (k : Int)] (tab iiC (c ++ [(1, (k : Int), 0, 0, (k : Int))])) kr kr kr kr kr ((tab_len iiC_len _).trans (by first | rfl | (simp only [List.length_append, List.length_cons, List.length_nil, List.length_set] at *; done))) kr kr (by decide) kr (by omega) kr (tab_snoc c (1, (k : Int), 0, 0, (k : Int))) (sd_see 115 (s5 9 ((c ++ [(1, (k : Int), 0, 0, (k : Int))]).length)) (see_len (n := (c.length + 1)) kr (by simp)) (sd_run 8 (sd_see 28 (.int .i64 ((k + 1 : Nat) : Int)) (see_int (x := (IntKind.i64.wrap ((k : Int) + 1))) kr (w64 (by omega) (by omega) (by omega))) (sd_run 2 ?_)))))))
   refine sd_inv R1_ kr (hR1_ _ (N - (k + 1)) _ (emOf [some 0, some 1, some 2, some 3, some 4, some 5, some 9]) (by omega) ⟨k + 1, (c ++ [(1, (k : Int), 0, 0, (k : Int))]), rfl, (by omega), (by simp; omega), (i1_2.app i1_1 (made_arg (by omega))), (imm_app i1_3 (show 0 ≤ (k : Int) ∧ (k : Int) < 4294967296 from ⟨by omega, by omega⟩)), rfl⟩ ⟨sub_of kr kr ⟨inC_b, inC_b, inC_b, brn, brn, brn, iiC_b, ⟨⟩⟩, te_of kr kr⟩ kr)
  ·skip
   by_cases hk0 : k = 0
   ·skip
    refine sd_run 8 (sdT 15 ((k : Int) < (xa.length : Int)) (by omega) kr (sd_run 6 (sdT 21 ((k : Int) < (xb.length : Int)) (by omega) kr (sd_run 4 (sdT 25 ((k : Int) < 40) (by omega) kr (sd_run 28 (sd_see 34 (.bool false) (see_bool (x := (decide ((k : Int) < (0 + e3 % (6 - 0 + 1))))) kr (decide_eq_false (by omega))) ?_)))))))
    refine sd_run 7 (sdF 45 ((k : Int) > 0) (by omega) kr (sd_run 17 (sdF 83 ((k : Int) > 0) (by omega) kr (sd_run 21 (sd_grow 115 26 26 61 4 39 6 c.length 1 9 (.slice (some ⟨8, 0, none⟩) 1 1) (tab iiC c) [Value.int .i64 0, .int .i64 (k : Int), .int .i64 0, .int .i64 0, .int .u32 (IntKind.u32.wrap ((IntKind.u32.wrap (k : Int)) * 77))] (tab iiC (c ++ [(0, (k : Int), 0, 0, (IntKind.u32.wrap ((IntKind.u32.wrap (k : Int)) * 77)))])) kr kr kr kr kr ((tab_len iiC_len _).trans (by first | rfl | (simp only [List.length_append, List.length_cons, List.length_nil, List.length_set] at *; done))) kr kr (by decide) kr (by omega) kr (tab_snoc c (0, (k : Int), 0, 0, (IntKind.u32.wrap ((IntKind.u32.wrap (k : Int)) * 77)))) (sd_see 115 (s5 9 ((c ++ [(0, (k : Int), 0, 0, (IntKind.u32.wrap ((IntKind.u32.wrap (k : Int)) * 77)))]).length)) (see_len (n := (c.length + 1)) kr (by simp)) (sd_run 8 ?_)))))))
    refine sd_see 28 (.int .i64 ((k + 1 : Nat) : Int)) (see_int (x := (IntKind.i64.wrap ((k : Int) + 1))) kr (w64 (by omega) (by omega) (by omega))) (sd_run 2 ?_)
    refine sd_inv R1_ kr (hR1_ _ (N - (k + 1)) _ (emOf [some 0, some 1, some 2, some 3, some 4, some 5, some 9]) (by omega) ⟨k + 1, (c ++ [(0, (k : Int), 0, 0, (IntKind.u32.wrap ((IntKind.u32.wrap (k : Int)) * 77)))]), rfl, (by omega), (by simp; omega), (i1_2.app i1_1 (made_const _ _ _)), (imm_app i1_3 (show 0 ≤ (IntKind.u32.wrap ((IntKind.u32.wrap (k : Int)) * 77)) ∧ (IntKind.u32.wrap ((IntKind.u32.wrap (k : Int)) * 77)) < 4294967296 from (u32w_in _))), rfl⟩ ⟨sub_of kr kr ⟨inC_b, inC_b, inC_b, brn, brn, brn, iiC_b, ⟨⟩⟩, te_of kr kr⟩ kr)
   ·skip
    by_cases ha4 : 0 < Int.tmod a1 4
    ·skip
     refine sd_run 8 (sdT 15 ((k : Int) < (xa.length : Int)) (by omega) kr (sd_run 6 (sdT 21 ((k : Int) < (xb.length : Int)) (by omega) kr (sd_run 4 (sdT 25 ((k : Int) < 40) (by omega) kr (sd_run 28 (sd_see 34 (.bool false) (see_bool (x := (decide ((k : Int) < (0 + e3 % (6 - 0 + 1))))) kr (decide_eq_false (by omega))) ?_)))))))
     refine sd_run 7 (sdT 45 ((k : Int) > 0) (by omega) kr (sd_run 4 (sd_ix 50 (.pointer (some ⟨0, 0 + k * 1, none⟩)) k xa.length kr kr kr (by omega) (sd_ld 51 (.int .i64 a1) 3 (.pointer (some ⟨0, 0 + k * 1, none⟩)) kr kr kr (ld_cell (l := xa) (e := 3) (ro := ro) (k := k) (j := 0) inC_len kr kr kr ha1 rfl) (sd_run 2 (sd_see 53 (.bool true) (see_bool (x := (decide (((Int.tmod a1 4) : Int) > 0))) kr (decide_eq_true (by omega))) (sd_run 5 ?_)))))))
     refine sd_drawP kr ?_
     refine svp_go 4 ?_
     refine svp_line ?_
     refine sv_ix 59 (.pointer (some ⟨0, 0 + k * 1, none⟩)) k xa.length kr kr kr (by omega) kr kr ?_
     refine sv_ld 60 (.int .i64 a1) 3 (.pointer (some ⟨0, 0 + k * 1, none⟩)) kr kr kr (ld_cell (l := xa) (e := 3) (ro := ro) (k := k) (j := 0) inC_len kr kr kr ha1 rfl) kr ?_
     refine sv_run 2 ?_
     refine sv_see 62 (.int .i64 ((k : Int) - 1)) (see_int (x := (IntKind.i64.wrap ((k : Int) - 1))) kr (w64 (by omega) (by omega) (by omega))) ?_
     refine sv_ask 63 (.int .i64 (0 + a1 % (((k : Int) - 1) - 0 + 1))) 10 #[.int .i64 a1, .int .i64 0, .int .i64 ((k : Int) - 1)] kr kr kr (orc10 a1 0 ((k : Int) - 1) (inB_of (by first | omega | (simp only [bd] at *; omega)) (by first | omega | (simp only [bd] at *; omega)) (by first | omega | (simp only [bd] at *; omega)) (by first | omega | (simp only [bd] at *; omega)))) ?_
     refine sv_run 1 ?_
     refine sv_rd 65 (s1 1 xb.length) 22 3 1 kr kr kr kr (veq_slice _ _ _) kr ?_
     refine sv_run 1 ?_
     refine sv_ix 67 (.pointer (some ⟨1, 0 + k * 1, none⟩)) k xb.length kr kr kr (by omega) kr kr ?_
     refine sv_rd 68 (.int .i64 a2) 3 1 (0 + k * 1) kr kr kr (ld_cell (l := xb) (e := 3) (ro := ro) (k := k) (j := 0) inC_len kr kr kr ha2 rfl) (veq_int _ _) kr ?_
     refine sv_run 2 ?_
     refine sv_see 70 (.int .i64 ((k : Int) - 1)) (see_int (x := (IntKind.i64.wrap ((k : Int) - 1))) kr (w64 (by omega) (by omega) (by omega))) ?_
     refine sv_ask 71 (.int .i64 (0 + a2 % (((k : Int) - 1) - 0 + 1))) 10 #[.int .i64 a2, .int .i64 0, .int .i64 ((k : Int) - 1)] kr kr kr (orc10 a2 0 ((k : Int) - 1) (inB_of (by first | omega | (simp only [bd] at *; omega)) (by first | omega | (simp only [bd] at *; omega)) (by first | omega | (simp only [bd] at *; omega)) (by first | omega | (simp only [bd] at *; omega)))) ?_
     refine sv_run 1 ?_
     refine sv_rd 73 (s1 1 xb.length) 22 3 1 kr kr kr kr (veq_slice _ _ _) kr ?_
     refine sv_run 1 ?_
     refine sv_ix 75 (.pointer (some ⟨1, 0 + k * 1, none⟩)) k xb.length kr kr kr (by omega) kr kr ?_
     refine sv_rd 76 (.int .i64 a2) 3 1 (0 + k * 1) kr kr kr (ld_cell (l := xb) (e := 3) (ro := ro) (k := k) (j := 0) inC_len kr kr kr ha2 rfl) (veq_int _ _) kr ?_
     refine sv_ask 77 (.int .i64 (0 + a2 % (7 - 0 + 1))) 10 #[.int .i64 a2, .int .i64 0, .int .i64 7] kr kr kr (orc10 a2 0 7 (inB_of (by first | omega | (simp only [bd] at *; omega)) (by first | omega | (simp only [bd] at *; omega)) (by first | omega | (simp only [bd] at *; omega)) (by first | omega | (simp only [bd] at *; omega)))) ?_
     refine sv_run 1 ?_
     refine sv_see 78 (.int .u32 (0 + a2 % (7 - 0 + 1))) (see_int (x := (IntKind.u32.wrap (0 + a2 % (7 - 0 + 1)))) kr (wu32 rfl (by omega) (by omega))) ?_
     refine sv_run 1 ?_
     refine sv_see 79 (.int .u32 (16 + (0 + a2 % (7 - 0 + 1)))) (see_int (x := (IntKind.u32.wrap (16 + (0 + a2 % (7 - 0 + 1))))) kr (wu32 rfl (by omega) (by omega))) ?_
     refine sv_run 2 ?_
     refine sv_end kr ?_
     refine sd_run 7 (sd_grow 115 26 26 61 4 39 6 c.length 1 9 (.slice (some ⟨8, 0, none⟩) 1 1) (tab iiC c) [Value.int .i64 3, .int .i64 (k : Int), .int .i64 (0 + a1 % (((k : Int) - 1) - 0 + 1)), .int .i64 (0 + a2 % (((k : Int) - 1) - 0 + 1)), .int .u32 (16 + (0 + a2 % (7 - 0 + 1)))] (tab iiC (c ++ [(3, (k : Int), (0 + a1 % (((k : Int) - 1) - 0 + 1)), (0 + a2 % (((k : Int) - 1) - 0 + 1)), (16 + (0 + a2 % (7 - 0 + 1))))])) kr kr kr kr kr ((tab_len iiC_len _).trans (by first | rfl | (simp only [List.length_append, List.length_cons, List.length_nil, List.length_set] at *; done))) kr kr (by decide) kr (by omega) kr (tab_snoc c (3, (k : Int), (0 + a1 % (((k : Int) - 1) - 0 + 1)), (0 + a2 % (((k : Int) - 1) - 0 + 1)), (16 + (0 + a2 % (7 - 0 + 1))))) (sd_see 115 (s5 9 ((c ++ [(3, (k : Int), (0 + a1 % (((k : Int) - 1) - 0 + 1)), (0 + a2 % (((k : Int) - 1) - 0 + 1)), (16 + (0 + a2 % (7 - 0 + 1))))]).length)) (see_len (n := (c.length + 1)) kr (by simp)) (sd_run 8 (sd_see 28 (.int .i64 ((k + 1 : Nat) : Int)) (see_int (x := (IntKind.i64.wrap ((k : Int) + 1))) kr (w64 (by omega) (by omega) (by omega))) (sd_run 2 ?_)))))
     refine sd_inv R1_ kr (hR1_ _ (N - (k + 1)) _ (emOf [some 0, some 1, some 2, some 3, some 4, some 5, some 9]) (by omega) ⟨k + 1, (c ++ [(3, (k : Int), (0 + a1 % (((k : Int) - 1) - 0 + 1)), (0 + a2 % (((k : Int) - 1) - 0 + 1)), (16 + (0 + a2 % (7 - 0 + 1))))]), rfl, (by omega), (by simp; omega), (i1_2.app i1_1 (made_alu (within_in _ (by omega)) (within_in _ (by omega)) (by omega))), (imm_app i1_3 (show 0 ≤ (16 + (0 + a2 % (7 - 0 + 1))) ∧ (16 + (0 + a2 % (7 - 0 + 1))) < 4294967296 from ⟨by omega, by omega⟩)), rfl⟩ ⟨sub_of kr kr ⟨inC_b, inC_b, inC_b, brn, brn, brn, iiC_b, ⟨⟩⟩, te_of kr kr⟩ kr)
    ·skip
     by_cases hb4 : Int.tmod a2 4 = 0
     ·skip
      refine sd_run 8 (sdT 15 ((k : Int) < (xa.length : Int)) (by omega) kr (sd_run 6 (sdT 21 ((k : Int) < (xb.length : Int)) (by omega) kr (sd_run 4 (sdT 25 ((k : Int) < 40) (by omega) kr (sd_run 28 (sd_see 34 (.bool false) (see_bool (x := (decide ((k : Int) < (0 + e3 % (6 - 0 + 1))))) kr (decide_eq_false (by omega))) ?_)))))))
      refine sd_run 7 (sdT 45 ((k : Int) > 0) (by omega) kr (sd_run 4 (sd_ix 50 (.pointer (some ⟨0, 0 + k * 1, none⟩)) k xa.length kr kr kr (by omega) (sd_ld 51 (.int .i64 a1) 3 (.pointer (some ⟨0, 0 + k * 1, none⟩)) kr kr kr (ld_cell (l := xa) (e := 3) (ro := ro) (k := k) (j := 0) inC_len kr kr kr ha1 rfl) (sd_run 2 (sd_see 53 (.bool false) (see_bool (x := (decide (((Int.tmod a1 4) : Int) > 0))) kr (decide_eq_false (by omega))) (sd_run 9 ?_)))))))
      refine sdT 83 ((k : Int) > 0) (by omega) kr (sd_run 4 (sd_ix 88 (.pointer (some ⟨1, 0 + k * 1, none⟩)) k xb.length kr kr kr (by omega) (sd_ld 89 (.int .i64 a2) 3 (.pointer (some ⟨1, 0 + k * 1, none⟩)) kr kr kr (ld_cell (l := xb) (e := 3) (ro := ro) (k := k) (j := 0) inC_len kr kr kr ha2 rfl) (sd_run 2 (sd_see 91 (.bool true) (see_bool (x := (((Int.tmod a2 4) : Int) == 0)) kr (beq_iff_eq.2 (by omega))) (sd_run 5 (sd_drawP kr ?_)))))))
      refine svp_go 4 ?_
      refine svp_line ?_
      refine sv_ix 97 (.pointer (some ⟨0, 0 + k * 1, none⟩)) k xa.length kr kr kr (by omega) kr kr ?_
      refine sv_ld 98 (.int .i64 a1) 3 (.pointer (some ⟨0, 0 + k * 1, none⟩)) kr kr kr (ld_cell (l := xa) (e := 3) (ro := ro) (k := k) (j := 0) inC_len kr kr kr ha1 rfl) kr ?_
      refine sv_run 2 ?_
      refine sv_see 100 (.int .i64 ((k : Int) - 1)) (see_int (x := (IntKind.i64.wrap ((k : Int) - 1))) kr (w64 (by omega) (by omega) (by omega))) ?_
      refine sv_ask 101 (.int .i64 (0 + a1 % (((k : Int) - 1) - 0 + 1))) 10 #[.int .i64 a1, .int .i64 0, .int .i64 ((k : Int) - 1)] kr kr kr (orc10 a1 0 ((k : Int) - 1) (inB_of (by first | omega | (simp only [bd] at *; omega)) (by first | omega | (simp only [bd] at *; omega)) (by first | omega | (simp only [bd] at *; omega)) (by first | omega | (simp only [bd] at *; omega)))) ?_
      refine sv_run 1 ?_
      refine sv_rd 103 (s1 1 xb.length) 22 3 1 kr kr kr kr (veq_slice _ _ _) kr ?_
      refine sv_run 1 ?_
      refine sv_ix 105 (.pointer (some ⟨1, 0 + k * 1, none⟩)) k xb.length kr kr kr (by omega) kr kr ?_
      refine sv_rd 106 (.int .i64 a2) 3 1 (0 + k * 1) kr kr kr (ld_cell (l := xb) (e := 3) (ro := ro) (k := k) (j := 0) inC_len kr kr kr ha2 rfl) (veq_int _ _) kr ?_
      refine sv_run 2 ?_
      refine sv_see 108 (.int .i64 ((k : Int) - 1)) (see_int (x := (IntKind.i64.wrap ((k : Int) - 1))) kr (w64 (by omega) (by omega) (by omega))) ?_
      refine sv_ask 109 (.int .i64 (0 + a2 % (((k : Int) - 1) - 0 + 1))) 10 #[.int .i64 a2, .int .i64 0, .int .i64 ((k : Int) - 1)] kr kr kr (orc10 a2 0 ((k : Int) - 1) (inB_of (by first | omega | (simp only [bd] at *; omega)) (by first | omega | (simp only [bd] at *; omega)) (by first | omega | (simp only [bd] at *; omega)) (by first | omega | (simp only [bd] at *; omega)))) ?_
      refine sv_run 2 ?_
      refine sv_end kr ?_
      refine sd_run 7 (sd_grow 115 26 26 61 4 39 6 c.length 1 9 (.slice (some ⟨8, 0, none⟩) 1 1) (tab iiC c) [Value.int .i64 4, .int .i64 (k : Int), .int .i64 (0 + a1 % (((k : Int) - 1) - 0 + 1)), .int .i64 (0 + a2 % (((k : Int) - 1) - 0 + 1)), .int .u32 25] (tab iiC (c ++ [(4, (k : Int), (0 + a1 % (((k : Int) - 1) - 0 + 1)), (0 + a2 % (((k : Int) - 1) - 0 + 1)), 25)])) kr kr kr kr kr ((tab_len iiC_len _).trans (by first | rfl | (simp only [List.length_append, List.length_cons, List.length_nil, List.length_set] at *; done))) kr kr (by decide) kr (by omega) kr (tab_snoc c (4, (k : Int), (0 + a1 % (((k : Int) - 1) - 0 + 1)), (0 + a2 % (((k : Int) - 1) - 0 + 1)), 25)) (sd_see 115 (s5 9 ((c ++ [(4, (k : Int), (0 + a1 % (((k : Int) - 1) - 0 + 1)), (0 + a2 % (((k : Int) - 1) - 0 + 1)), 25)]).length)) (see_len (n := (c.length + 1)) kr (by simp)) (sd_run 8 (sd_see 28 (.int .i64 ((k + 1 : Nat) : Int)) (see_int (x := (IntKind.i64.wrap ((k : Int) + 1))) kr (w64 (by omega) (by omega) (by omega))) (sd_run 2 ?_)))))
      refine sd_inv R1_ kr (hR1_ _ (N - (k + 1)) _ (emOf [some 0, some 1, some 2, some 3, some 4, some 5, some 9]) (by omega) ⟨k + 1, (c ++ [(4, (k : Int), (0 + a1 % (((k : Int) - 1) - 0 + 1)), (0 + a2 % (((k : Int) - 1) - 0 + 1)), 25)]), rfl, (by omega), (by simp; omega), (i1_2.app i1_1 (made_flag (within_in _ (by omega)) (within_in _ (by omega)))), (imm_app i1_3 (show 0 ≤ 25 ∧ 25 < 4294967296 from ⟨by decide, by decide⟩)), rfl⟩ ⟨sub_of kr kr ⟨inC_b, inC_b, inC_b, brn, brn, brn, iiC_b, ⟨⟩⟩, te_of kr kr⟩ kr)
     ·skip
      refine sd_run 8 (sdT 15 ((k : Int) < (xa.length : Int)) (by omega) kr (sd_run 6 (sdT 21 ((k : Int) < (xb.length : Int)) (by omega) kr (sd_run 4 (sdT 25 ((k : Int) < 40) (by omega) kr (sd_run 28 (sd_see 34 (.bool false) (see_bool (x := (decide ((k : Int) < (0 + e3 % (6 - 0 + 1))))) kr (decide_eq_false (by omega))) ?_)))))))
      refine sd_run 7 (sdT 45 ((k : Int) > 0) (by omega) kr (sd_run 4 (sd_ix 50 (.pointer (some ⟨0, 0 + k * 1, none⟩)) k xa.length kr kr kr (by omega) (sd_ld 51 (.int .i64 a1) 3 (.pointer (some ⟨0, 0 + k * 1, none⟩)) kr kr kr (ld_cell (l := xa) (e := 3) (ro := ro) (k := k) (j := 0) inC_len kr kr kr ha1 rfl) (sd_run 2 (sd_see 53 (.bool false) (see_bool (x := (decide (((Int.tmod a1 4) : Int) > 0))) kr (decide_eq_false (by omega))) (sd_run 9 ?_)))))))
      refine sdT 83 ((k : Int) > 0) (by omega) kr (sd_run 4 (sd_ix 88 (.pointer (some ⟨1, 0 + k * 1, none⟩)) k xb.length kr kr kr (by omega) (sd_ld 89 (.int .i64 a2) 3 (.pointer (some ⟨1, 0 + k * 1, none⟩)) kr kr kr (ld_cell (l := xb) (e := 3) (ro := ro) (k := k) (j := 0) inC_len kr kr kr ha2 rfl) (sd_run 2 (sd_see 91 (.bool false) (see_bool (x := (((Int.tmod a2 4) : Int) == 0)) kr (beq_eq_false_iff_ne.2 (by omega))) (sd_run 13 (sd_grow 115 26 26 61 4 39 6 c.length 1 9 (.slice (some ⟨8, 0, none⟩) 1 1) (tab iiC c) [Value.int .i64 0, .int .i64 (k : Int), .int .i64 0, .int .i64 0, .int .u32 (IntKind.u32.wrap ((IntKind.u32.wrap (k : Int)) * 77))] (tab iiC (c ++ [(0, (k : Int), 0, 0, (IntKind.u32.wrap ((IntKind.u32.wrap (k : Int)) * 77)))])) kr kr kr kr kr ((tab_len iiC_len _).trans (by first | rfl | (simp only [List.length_append, List.length_cons, List.length_nil, List.length_set] at *; done))) kr kr (by decide) kr (by omega) kr (tab_snoc c (0, (k : Int), 0, 0, (IntKind.u32.wrap ((IntKind.u32.wrap (k : Int)) * 77)))) ?_)))))))
      refine sd_see 115 (s5 9 ((c ++ [(0, (k : Int), 0, 0, (IntKind.u32.wrap ((IntKind.u32.wrap (k : Int)) * 77)))]).length)) (see_len (n := (c.length + 1)) kr (by simp)) (sd_run 8 (sd_see 28 (.int .i64 ((k + 1 : Nat) : Int)) (see_int (x := (IntKind.i64.wrap ((k : Int) + 1))) kr (w64 (by omega) (by omega) (by omega))) (sd_run 2 ?_)))
      refine sd_inv R1_ kr (hR1_ _ (N - (k + 1)) _ (emOf [some 0, some 1, some 2, some 3, some 4, some 5, some 9]) (by omega) ⟨k + 1, (c ++ [(0, (k : Int), 0, 0, (IntKind.u32.wrap ((IntKind.u32.wrap (k : Int)) * 77)))]), rfl, (by omega), (by simp; omega), (i1_2.app i1_1 (made_const _ _ _)), (imm_app i1_3 (show 0 ≤ (IntKind.u32.wrap ((IntKind.u32.wrap (k : Int)) * 77)) ∧ (IntKind.u32.wrap ((IntKind.u32.wrap (k : Int)) * 77)) < 4294967296 from (u32w_in _))), rfl⟩ ⟨sub_of kr kr ⟨inC_b, inC_b, inC_b, brn, brn, brn, iiC_b, ⟨⟩⟩, te_of kr kr⟩ kr)
 ·skip
  obtain rfl : k = N := by omega
  refine sd_run 2 (sd_mid 159 (cl (cl (cl (cl (cr (cl (cr (cr f8b)))))))) [.next (cr (cl (cl (cl (cr (cl (cr (cr f8b)))))))), .next (cr (cl (cl (cr (cl (cr (cr f8b))))))), .inv R1_, .blk 0, .next (cr (cr (cr f8b)))] kr kr kr (fun s9 => s9 = ⟨tmL [(1, .pointer (some ⟨3, 0, none⟩)), (2, .pointer (some ⟨4, 0, none⟩)), (3, .pointer (some ⟨5, 0, none⟩)), (4, .int .i64 (k : Int)), (26, .bool false)], hq [(inCo xa ro), (inCo xb ro), (inCo xd ro), some ⟨[(s1 0 xa.length), (s1 1 xb.length), (s1 2 xd.length), .int .i64 e3], 24, false⟩, some ⟨[Value.slice none 0 0, .int .i64 0, .int .i64 0, .int .i64 0, .int .i64 0, .slice none 0 0, .slice none 0 0, .int .i64 0, .int .u32 0, .int .i64 0, .int .i64 0, .int .u32 0, .int .i64 0, .int .i64 0], 29, false⟩, some ⟨[(s5 6 c.length), .int .i64 (0 + e3 % (6 - 0 + 1)), .int .i64 0, .int .i64 6, .int .i64 0, .slice none 0 0, .slice none 0 0, .int .i64 (-1), .int .u32 0, .int .i64 (-1), .int .i64 0, .int .u32 0, .int .i64 1, .int .i64 0], 29, false⟩, (iiCo c false)]⟩) hX ?_ ?_)
  ·intro R2_ hR2_
   rcases (by omega : (k = xa.length) ∨ (k < xa.length ∧ k = xb.length) ∨ (k < xa.length ∧ k < xb.length ∧ k = 40)) with hq | hq | hq
   ·skip
    refine sd_run 6 (sdF 15 ((k : Int) < (xa.length : Int)) (by omega) kr (sd_run 12 ?_))
    refine sd_inv R2_ kr (hR2_ _ _ e7_ rfl ⟨sub_of kr kr ⟨inC_b, inC_b, inC_b, brn, brn, brn, iiC_b, ⟨⟩⟩, te_of kr kr⟩ kr)
   ·skip
    refine sd_run 6 (sdT 15 ((k : Int) < (xa.length : Int)) (by omega) kr (sd_run 6 (sdF 21 ((k : Int) < (xb.length : Int)) (by omega) kr (sd_run 6 ?_))))
    refine sd_inv R2_ kr (hR2_ _ _ e7_ rfl ⟨sub_of kr kr ⟨inC_b, inC_b, inC_b, brn, brn, brn, iiC_b, ⟨⟩⟩, te_of kr kr⟩ kr)
   ·skip
    refine sd_run 6 (sdT 15 ((k : Int) < (xa.length : Int)) (by omega) kr (sd_run 6 (sdT 21 ((k : Int) < (xb.length : Int)) (by omega) kr (sd_run 4 (sdF 25 ((k : Int) < 40) (by omega) kr (sd_run 2 ?_))))))
    refine sd_inv R2_ kr (hR2_ _ _ e7_ rfl ⟨sub_of kr kr ⟨inC_b, inC_b, inC_b, brn, brn, brn, iiC_b, ⟨⟩⟩, te_of kr kr⟩ kr)
  ·rintro s9 rfl
   refine sd_run 23 ?_
   obtain ⟨N2, hN2⟩ : ∃ N, N = (if c.length = 0 then 0 else min xd.length 9) := ⟨_, rfl⟩
   have hb2 : N2 ≤ 9 := by rw [hN2]; by_cases h : c.length = 0; (rw [if_pos h]; omega); (rw [if_neg h]; omega)
   refine sd_loop 159 (cl (cl (cr (cl (cr (cr (cr (cr f8b)))))))) [.blk 3, .next (cr (cr (cr (cr (cr f8b)))))] kr kr kr (fun m9 s9 => ∃ (j : Nat) (od : List Int), m9 = N2 - j ∧ (j ≤ N2) ∧ (od.length = j) ∧ (ValC (c.length : Int) od) ∧ s9 = ⟨tmL [(1, .pointer (some ⟨3, 0, none⟩)), (2, .pointer (some ⟨4, 0, none⟩)), (3, .pointer (some ⟨5, 0, none⟩)), (6, .int .i64 (j : Int))], hq [(inCo xa ro), (inCo xb ro), (inCo xd ro), some ⟨[(s1 0 xa.length), (s1 1 xb.length), (s1 2 xd.length), .int .i64 e3], 24, false⟩, some ⟨[Value.slice none 0 0, .int .i64 0, .int .i64 0, .int .i64 0, .int .i64 0, .slice none 0 0, .slice none 0 0, .int .i64 0, .int .u32 0, .int .i64 0, .int .i64 0, .int .u32 0, .int .i64 0, .int .i64 0], 29, false⟩, some ⟨[(s5 6 c.length), .int .i64 (0 + e3 % (6 - 0 + 1)), .int .i64 0, .int .i64 6, .int .i64 0, (s1 7 od.length), .slice none 0 0, .int .i64 (-1), .int .u32 0, .int .i64 (-1), .int .i64 0, .int .u32 0, .int .i64 1, .int .i64 (c.length : Int)], 29, false⟩, (iiCo c false), (inCo od false)]⟩) (N2 - 0) _ (emOf [some 0, some 1, some 2, some 3, some 4, some 5, some 6, none]) hX ⟨0, [], rfl, (by omega), rfl, (valC_nil _), rfl⟩ ⟨sub_of kr kr ⟨inC_b, inC_b, inC_b, brn, brn, brn, iiC_b, rfl, ⟨⟩⟩, te_of kr kr⟩ kr ?_
   rintro m9 s9 ⟨j, od, rfl, i3_0, i3_1, i3_2, rfl⟩ R3_ hR3_
   by_cases hlt : j < N2
   ·skip
    have hc1 : 0 < c.length := by by_cases h : c.length = 0; (rw [if_pos h] at hN2; omega); omega
    have hm1 : j < 9 ∧ j < xd.length := by rw [if_neg (by omega)] at hN2; omega
    obtain ⟨a3, ha3⟩ : ∃ x_, (xd)[j]? = some x_ := ⟨_, List.getElem?_eq_getElem (by omega)⟩
    have ia3 := hx2 _ (List.mem_of_getElem? ha3)
    simp only [i64B, Bool.and_eq_true, decide_eq_true_eq] at ia3
    refine sd_run 6 (sdT 123 ((c.length : Int) > 0) (by omega) kr (sd_run 6 (sdT 129 ((j : Int) < (xd.length : Int)) (by omega) kr (sd_run 4 (sdT 133 ((j : Int) < 9) (by omega) kr (sd_run 8 (sd_drawQ [(1, 10)] kr kr ?_)))))))
    refine sq_run 1 ?_
    refine sq_rd 138 (s1 7 od.length) (.pointer (some ⟨5, 5, none⟩)) 22 kr kr kr kr (veq_slice _ _ _) kr ?_
    refine sq_run 3 ?_
    refine sq_ix 142 (.pointer (some ⟨2, 0 + j * 1, none⟩)) j xd.length kr kr kr (by omega) kr ?_
    refine sq_ld 143 (.int .i64 a3) 3 (.pointer (some ⟨2, 0 + j * 1, none⟩)) kr kr kr (ld_cell (l := xd) (e := 3) (ro := ro) (k := j) (j := 0) inC_len kr kr kr ha3 rfl) kr ?_
    refine sq_run 3 ?_
    refine sq_see 146 (.int .i64 ((c.length : Int) - 1)) (see_int (x := (IntKind.i64.wrap ((c.length : Int) - 1))) kr (w64 (by omega) (by omega) (by omega))) ?_
    refine sq_ask 147 (.int .i64 (0 + a3 % (((c.length : Int) - 1) - 0 + 1))) 10 #[.int .i64 a3, .int .i64 0, .int .i64 ((c.length : Int) - 1)] kr kr kr (orc10 a3 0 ((c.length : Int) - 1) (inB_of (by first | omega | (simp only [bd] at *; omega)) (by first | omega | (simp only [bd] at *; omega)) (by first | omega | (simp only [bd] at *; omega)) (by first | omega | (simp only [bd] at *; omega)))) ⟨kr, kr, kr⟩ ?_
    refine sq_run 1 ?_
    refine sq_grow 149 22 22 3 0 7 7 od.length 1 9 (.slice (some ⟨8, 0, none⟩) 1 1) (tab inC od) [Value.int .i64 (0 + a3 % (((c.length : Int) - 1) - 0 + 1))] (tab inC (od ++ [(0 + a3 % (((c.length : Int) - 1) - 0 + 1))])) kr kr kr kr kr ((tab_len inC_len _).trans (by first | rfl | (simp only [List.length_append, List.length_cons, List.length_nil, List.length_set] at *; done))) kr kr (by decide) kr (by omega) kr (tab_snoc od (0 + a3 % (((c.length : Int) - 1) - 0 + 1))) kr ?_
    refine sq_see 149 (s1 9 ((od ++ [(0 + a3 % (((c.length : Int) - 1) - 0 + 1))]).length)) (see_len (n := (od.length + 1)) kr (by simp)) ?_
    refine sq_run 2 ?_
    refine sq_end kr ?_
    refine sd_run 5 (sd_see 136 (.int .i64 ((j + 1 : Nat) : Int)) (see_int (x := (IntKind.i64.wrap ((j : Int) + 1))) kr (w64 (by omega) (by omega) (by omega))) (sd_run 2 ?_))
    refine sd_inv R3_ kr (hR3_ _ (N2 - (j + 1)) _ (emOf [some 0, some 1, some 2, some 3, some 4, some 5, some 6, some 9]) (by omega) ⟨j + 1, (od ++ [(0 + a3 % (((c.length : Int) - 1) - 0 + 1))]), rfl, (by omega), (by simp; omega), (i3_2.app (by have := Int.emod_nonneg a3 (by omega : (c.length : Int) - 1 - 0 + 1 ≠ 0); have := Int.emod_lt_of_pos a3 (by omega : 0 < (c.length : Int) - 1 - 0 + 1); omega)), rfl⟩ ⟨sub_of kr kr ⟨inC_b, inC_b, inC_b, brn, brn, brn, iiC_b, inC_b, ⟨⟩⟩, te_of kr kr⟩ kr)
   ·skip
    obtain rfl : j = N2 := by omega
    refine sd_run 2 (sd_mid 159 (cl (cl (cl (cl (cr (cl (cr (cr (cr (cr f8b)))))))))) [.next (cr (cl (cl (cl (cr (cl (cr (cr (cr (cr f8b)))))))))), .next (cr (cl (cl (cr (cl (cr (cr (cr (cr f8b))))))))), .inv R3_, .blk 3, .next (cr (cr (cr (cr (cr f8b)))))] kr kr kr (fun s9 => s9 = ⟨tmL [(1, .pointer (some ⟨3, 0, none⟩)), (2, .pointer (some ⟨4, 0, none⟩)), (3, .pointer (some ⟨5, 0, none⟩)), (6, .int .i64 (j : Int)), (134, .bool false)], hq [(inCo xa ro), (inCo xb ro), (inCo xd ro), some ⟨[(s1 0 xa.length), (s1 1 xb.length), (s1 2 xd.length), .int .i64 e3], 24, false⟩, some ⟨[Value.slice none 0 0, .int .i64 0, .int .i64 0, .int .i64 0, .int .i64 0, .slice none 0 0, .slice none 0 0, .int .i64 0, .int .u32 0, .int .i64 0, .int .i64 0, .int .u32 0, .int .i64 0, .int .i64 0], 29, false⟩, some ⟨[(s5 6 c.length), .int .i64 (0 + e3 % (6 - 0 + 1)), .int .i64 0, .int .i64 6, .int .i64 0, (s1 7 od.length), .slice none 0 0, .int .i64 (-1), .int .u32 0, .int .i64 (-1), .int .i64 0, .int .u32 0, .int .i64 1, .int .i64 (c.length : Int)], 29, false⟩, (iiCo c false), (inCo od false)]⟩) hX ?_ ?_)
    ·intro R4_ hR4_
     by_cases hc0 : c.length = 0
     ·skip
      refine sd_run 4 (sdF 123 ((c.length : Int) > 0) (by omega) kr (sd_run 12 ?_))
      refine sd_inv R4_ kr (hR4_ _ _ e8_ rfl ⟨sub_of kr kr ⟨inC_b, inC_b, inC_b, brn, brn, brn, iiC_b, inC_b, ⟨⟩⟩, te_of kr kr⟩ kr)
     ·skip
      rw [if_neg hc0] at hN2
      rcases (by omega : j = xd.length ∨ (j < xd.length ∧ j = 9)) with hq | hq
      ·skip
       refine sd_run 4 (sdT 123 ((c.length : Int) > 0) (by omega) kr (sd_run 6 (sdF 129 ((j : Int) < (xd.length : Int)) (by omega) kr (sd_run 6 ?_))))
       refine sd_inv R4_ kr (hR4_ _ _ e8_ rfl ⟨sub_of kr kr ⟨inC_b, inC_b, inC_b, brn, brn, brn, iiC_b, inC_b, ⟨⟩⟩, te_of kr kr⟩ kr)
      ·skip
       refine sd_run 4 (sdT 123 ((c.length : Int) > 0) (by omega) kr (sd_run 6 (sdT 129 ((j : Int) < (xd.length : Int)) (by omega) kr (sd_run 4 (sdF 133 ((j : Int) < 9) (by omega) kr (sd_run 2 ?_))))))
       refine sd_inv R4_ kr (hR4_ _ _ e8_ rfl ⟨sub_of kr kr ⟨inC_b, inC_b, inC_b, brn, brn, brn, iiC_b, inC_b, ⟨⟩⟩, te_of kr kr⟩ kr)
    ·rintro s9 rfl
     refine sd_run 9 ?_
     by_cases hc2 : 2 < c.length
     ·skip
      refine sd_run 4 (sdT 153 ((c.length : Int) > 2) (by omega) kr (sd_run 7 (sd_see 156 (.int .i64 ((c.length : Int) / 2)) (see_int (x := (IntKind.i64.wrap (Int.tdiv (c.length : Int) 2))) kr (half_in (by omega))) (sd_run 11 ?_))))
      subst hnd
      refine sdZ (pgV (s5 6 c.length) (0 + e3 % (6 - 0 + 1)) 0 6 0 (s1 7 od.length) (.slice none 0 0) ((c.length : Int) / 2) 0 (-1) 0 0 1 (c.length : Int)) hX (pgV (s5 3 c.length) (0 + e3 % (6 - 0 + 1)) 0 6 0 (s1 4 od.length) (.slice none 0 0) ((c.length : Int) / 2) 0 (-1) 0 0 1 (c.length : Int)) [(inCo xa ro), (inCo xb ro), (inCo xd ro), (iiCo c false), (inCo od false)] [some 0, some 1, some 2, some 6, some 7] ⟨inC_b, inC_b, inC_b, iiC_b, inC_b, ⟨⟩⟩ ⟨(0 + e3 % (6 - 0 + 1)), ((c.length : Int) / 2), c, od, (sum_right i1_2 (by omega) hn9 i3_2 (.inr (by omega))), i1_3, (by omega), (by omega), rfl, rfl⟩
     ·skip
      refine sd_run 4 (sdF 153 ((c.length : Int) > 2) (by omega) kr (sd_run 12 ?_))
      subst hnd
      refine sdZ (pgV (s5 6 c.length) (0 + e3 % (6 - 0 + 1)) 0 6 0 (s1 7 od.length) (.slice none 0 0) (-1) 0 (-1) 0 0 1 (c.length : Int)) hX (pgV (s5 3 c.length) (0 + e3 % (6 - 0 + 1)) 0 6 0 (s1 4 od.length) (.slice none 0 0) (-1) 0 (-1) 0 0 1 (c.length : Int)) [(inCo xa ro), (inCo xb ro), (inCo xd ro), (iiCo c false), (inCo od false)] [some 0, some 1, some 2, some 6, some 7] ⟨inC_b, inC_b, inC_b, iiC_b, inC_b, ⟨⟩⟩ ⟨(0 + e3 % (6 - 0 + 1)), (-1), c, od, (sum_right i1_2 (by omega) hn9 i3_2 (.inl rfl)), i1_3, (by omega), (by omega), rfl, rfl⟩
end Ls
end Go.Proofs.Ytegjicaoemhhlaa
