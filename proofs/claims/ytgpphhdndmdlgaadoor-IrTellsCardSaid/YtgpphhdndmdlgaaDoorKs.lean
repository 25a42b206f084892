/- Chapter 19: blocks that are drawn: a value. -/
import Derived.Test.YtgpphhdndmdlgaaDoorKr
namespace Go.Proofs.YtgpphhdndmdlgaaDoor
open Go Go.Ev Go.RowKit
set_option linter.unusedVariables false
set_option linter.unusedSimpArgs false
set_option maxRecDepth 100000
namespace Ls
def bnOf (c : Cf) : Option (BinOp × TypeId × Value × Value) := match (opC c).op with
 | .binOp op t x y _ => (match aeval c.s.tm x, aeval c.s.tm y with | some u, some v => some (op, t, u, v) | _, _ => none)
 | _ => none
theorem sd_bin {P : Program} {T : Tab} {X : Cx} {Q : Xt → St → Prop} {c : Cf} (t : Nat) (v : Value) (op : BinOp) (ty : TypeId) (u w : Value) (ho : okOp c t = true) (hs : strictC c = true) (hA : bnOf c = some (op, ty, u, w)) (hb : abin T op ty u w = some v) (hk : SD P T X Q (c.put t v c.s.H)) : SD P T X Q c := by
 refine sd_val t v c.s.H ho hs ?_ hk
 unfold bnOf at hA
 split at hA
 ·rename_i op' ty' x y po hop
  split at hA
  ·rename_i u' w' e1 e2
   cases hA
   unfold aop
   simp only [hop, e1, e2, hb, orVal, val]
  ·cases hA
 ·cases hA
theorem imm_app {c : List II} {x : II} (h : ∀ x ∈ c, ok5 x) (hx : ok5 x) : ∀ y ∈ c ++ [x], ok5 y := fun y hy => by
 rcases List.mem_append.1 hy with h1 | h1
 ·exact h y h1
 ·simp at h1; subst h1; exact hx
theorem imm_set {c : List II} {k : Nat} {x : II} (h : ∀ x ∈ c, ok5 x) (hx : ok5 x) : ∀ y ∈ c.set k x, ok5 y := fun y hy => by
 rcases List.mem_or_eq_of_mem_set hy with h1 | h1
 ·exact h y h1
 ·subst h1; exact hx
theorem tm7 (x : Int) : Int.tmod (0 + x % (1000 - 0 + 1)) 7 = 0 ∨ Int.tmod (0 + x % (1000 - 0 + 1)) 7 = 1 ∨ Int.tmod (0 + x % (1000 - 0 + 1)) 7 = 2 ∨ Int.tmod (0 + x % (1000 - 0 + 1)) 7 = 3 ∨ Int.tmod (0 + x % (1000 - 0 + 1)) 7 = 4 ∨ Int.tmod (0 + x % (1000 - 0 + 1)) 7 = 5 ∨ Int.tmod (0 + x % (1000 - 0 + 1)) 7 = 6 := by rw [Int.tmod_eq_emod_of_nonneg (by omega)]; omega
theorem tmu {x y : Int} (h : 0 ≤ x ∧ x < 4294967296) (hy : 0 ≤ y) : 0 ≤ Int.tmod x y ∧ Int.tmod x y < 4294967296 := by
 have a := Int.tmod_nonneg y h.1
 have b : Int.tmod x y ≤ x := by
  rcases Int.lt_trichotomy y 0 with hy | hy | hy
  ·omega
  ·rw [hy, Int.tmod_zero]; exact Int.le_refl _
  ·rw [Int.tmod_eq_emod_of_nonneg h.1]
   by_cases hxy : x < y
   ·rw [Int.emod_eq_of_lt h.1 hxy]; exact Int.le_refl _
   ·have := Int.emod_lt_of_pos x hy; omega
 omega
theorem tm8 {x : Int} (h : 0 ≤ x ∧ x < 4294967296) : 0 ≤ Int.tmod x 8 ∧ Int.tmod x 8 < 8 := by rw [Int.tmod_eq_emod_of_nonneg h.1]; omega
theorem tm816 {x : Int} (h : 0 ≤ x ∧ x < 4294967296) : 0 ≤ IntKind.u32.wrap (16 + Int.tmod x 8) ∧ IntKind.u32.wrap (16 + Int.tmod x 8) < 4294967296 := by
 have := tm8 h
 have e : IntKind.u32.wrap (16 + Int.tmod x 8) = 16 + Int.tmod x 8 := wu32 rfl (by omega) (by omega)
 rw [e]; omega
theorem ab_rem {T : Tab} {t : TypeId} {k : IntKind} {a b : Int} (h : (b == 0) = false) : abin T .rem t (.int k a) (.int k b) = some (.int k (a.tmod b)) := by
 have hk : (k == k) = true := by simp
 simp only [abin, isShift, hk, cond_false, cond_true, ibin, h]
theorem wi_ok {n m : Int} (h : 0 < m) (h2 : m ≤ 100000) : -4294967296 ≤ 0 + n % m ∧ 0 + n % m ≤ 4294967296 := by
 have := Int.emod_nonneg n (by omega : m ≠ 0)
 have := Int.emod_lt_of_pos n h
 omega
noncomputable def f11b : Code := Tryd.f11.body.getD .skip
theorem f11_body : Tryd.f11.body = some f11b := by kernel_rfl
theorem f11_fn : T20.fn 11 = some Tryd.f11 := by kernel_rfl
set_option maxHeartbeats 20000000 in
theorem value_x {c : List II} {od rd : List Int} {nd nr hd hr fl nx tg br tk ct vs : Int} {xo xa xb xi xd xr : List Int} {e6 e7 e8 e9 e10 e11 e12 e13 e14 e15 e17 : Int} {e16 : Bool} {i : Nat} (hi0 : i < xo.length) (hi1 : i < xa.length) (hi2 : i < xb.length) (hi3 : i < xi.length) (hi20 : i < 20) (hnd : 0 ≤ nd ∧ nd ≤ 5) (hnr : 0 ≤ nr ∧ nr ≤ 3) (hx0 : ∀ x ∈ xo, i64B x = true) (hx1 : ∀ x ∈ xa, i64B x = true) (hx2 : ∀ x ∈ xb, i64B x = true) (hx3 : ∀ x ∈ xi, 0 ≤ x ∧ x < 4294967296) (hx4 : ∀ x ∈ xd, i64B x = true) (hx5 : ∀ x ∈ xr, i64B x = true) (he6 : i64B e6 = true) (he7 : i64B e7 = true) (he8 : i64B e8 = true) (he9 : i64B e9 = true) (he10 : i64B e10 = true) (he11 : i64B e11 = true) (he12 : i64B e12 = true) (he13 : i64B e13 = true) : SCall Tryd.prog T20 11 #[(pgV (s5 0 c.length) nd nr hd hr (s1 1 od.length) (s1 2 rd.length) fl nx tg br tk ct vs), .int .i64 (i : Int), .agg #[(s1 3 xo.length), (s1 4 xa.length), (s1 5 xb.length), (s1 6 xi.length), (s1 7 xd.length), (s1 8 xr.length), .int .i64 e6, .int .i64 e7, .int .i64 e8, .int .i64 e9, .int .i64 e10, .int .i64 e11, .int .i64 e12, .int .i64 e13, .int .u32 e14, .int .u32 e15, .bool e16, .int .i64 e17]] (hq [(iiCo c false), (inCo od false), (inCo rd false), (inCo xo true), (inCo xa true), (inCo xb true), (uCo xi true), (inCo xd true), (inCo xr true)]) fun v h => ∃ (o1 d1 a1 b1 im1 : Int), (ok5 (o1, d1, a1, b1, im1)) ∧ v = (c5A o1 d1 a1 b1 im1) ∧ h = hq [(iiCo c false), (inCo od false), (inCo rd false), (inCo xo true), (inCo xa true), (inCo xb true), (uCo xi true), (inCo xd true), (inCo xr true)] := by
 simp only [i64B, Bool.and_eq_true, decide_eq_true_eq] at he6
 simp only [i64B, Bool.and_eq_true, decide_eq_true_eq] at he7
 simp only [i64B, Bool.and_eq_true, decide_eq_true_eq] at he8
 simp only [i64B, Bool.and_eq_true, decide_eq_true_eq] at he9
 simp only [i64B, Bool.and_eq_true, decide_eq_true_eq] at he10
 simp only [i64B, Bool.and_eq_true, decide_eq_true_eq] at he11
 simp only [i64B, Bool.and_eq_true, decide_eq_true_eq] at he12
 simp only [i64B, Bool.and_eq_true, decide_eq_true_eq] at he13
 obtain ⟨b0, hb0⟩ : ∃ x_, (xo)[i]? = some x_ := ⟨_, List.getElem?_eq_getElem (by omega)⟩
 have ib0 := hx0 _ (List.mem_of_getElem? hb0)
 simp only [i64B, Bool.and_eq_true, decide_eq_true_eq] at ib0
 obtain ⟨b1, hb1⟩ : ∃ x_, (xa)[i]? = some x_ := ⟨_, List.getElem?_eq_getElem (by omega)⟩
 have ib1 := hx1 _ (List.mem_of_getElem? hb1)
 simp only [i64B, Bool.and_eq_true, decide_eq_true_eq] at ib1
 obtain ⟨b2, hb2⟩ : ∃ x_, (xb)[i]? = some x_ := ⟨_, List.getElem?_eq_getElem (by omega)⟩
 have ib2 := hx2 _ (List.mem_of_getElem? hb2)
 simp only [i64B, Bool.and_eq_true, decide_eq_true_eq] at ib2
 obtain ⟨b3, hb3⟩ : ∃ x_, (xi)[i]? = some x_ := ⟨_, List.getElem?_eq_getElem (by omega)⟩
 have ib3 := hx3 _ (List.mem_of_getElem? hb3)
 rcases tm7 b0 with hm | hm | hm | hm | hm | hm | hm
 ·skip
  refine scall_sd 114 _ 9 kr f11_fn f11_body rfl rfl rfl fun X hX => ?_
  refine sd_run 8 (sd_drawP kr ?_)
  refine svp_go 3 ?_
  refine svp_line ?_
  refine sv_ix 11 (.pointer (some ⟨3, 0 + i * 1, none⟩)) i xo.length kr kr kr (by omega) kr kr ?_
  refine sv_ld 12 (.int .i64 b0) 3 (.pointer (some ⟨3, 0 + i * 1, none⟩)) kr kr kr (ld_cell (l := xo) (e := 3) (ro := true) (k := i) (j := 0) inC_len kr kr kr hb0 rfl) kr ?_
  refine sv_ask 13 (.int .i64 (0 + b0 % (1000 - 0 + 1))) 10 #[.int .i64 b0, .int .i64 0, .int .i64 1000] kr kr kr (orc10 b0 0 1000 (inB_of (by omega) (by omega) (by omega) (by omega))) ?_
  refine sv_run 1 ?_
  refine sv_see 14 (.int .i64 0) (see_int (x := (Int.tmod (0 + b0 % (1000 - 0 + 1)) 7)) kr hm) ?_
  refine sv_run 2 ?_
  refine sv_rd 17 (s1 6 xi.length) 23 10 3 kr kr kr kr (veq_slice _ _ _) kr ?_
  refine sv_run 1 ?_
  refine sv_ix 19 (.pointer (some ⟨6, 0 + i * 1, none⟩)) i xi.length kr kr kr (by omega) kr kr ?_
  refine sv_rd 20 (.int .u32 b3) 24 6 (0 + i * 1) kr kr kr (ld_cell (l := xi) (e := 24) (ro := true) (k := i) (j := 0) uC_len kr kr kr hb3 rfl) (veq_int _ _) kr ?_
  refine sv_run 3 ?_
  refine sv_end kr ?_
  refine sd_run 93 ?_
  refine sdY (c5A 0 (i : Int) 0 0 b3) hX [(iiCo c false), (inCo od false), (inCo rd false), (inCo xo true), (inCo xa true), (inCo xb true), (uCo xi true), (inCo xd true), (inCo xr true)] i9_ ⟨iiC_b, inC_b, inC_b, inC_b, inC_b, inC_b, uC_b, inC_b, inC_b, ⟨⟩⟩ ⟨0, (i : Int), 0, 0, b3, (by simp only [ok5]; exact ⟨(by omega), (by omega), (by omega), (by omega), (by omega)⟩), rfl, rfl⟩
 ·skip
  by_cases hz : nd = 0
  ·skip
   refine scall_sd 114 _ 9 kr f11_fn f11_body rfl rfl rfl fun X hX => ?_
   refine sd_run 8 (sd_drawP kr ?_)
   refine svp_go 3 ?_
   refine svp_line ?_
   refine sv_ix 11 (.pointer (some ⟨3, 0 + i * 1, none⟩)) i xo.length kr kr kr (by omega) kr kr ?_
   refine sv_ld 12 (.int .i64 b0) 3 (.pointer (some ⟨3, 0 + i * 1, none⟩)) kr kr kr (ld_cell (l := xo) (e := 3) (ro := true) (k := i) (j := 0) inC_len kr kr kr hb0 rfl) kr ?_
   refine sv_ask 13 (.int .i64 (0 + b0 % (1000 - 0 + 1))) 10 #[.int .i64 b0, .int .i64 0, .int .i64 1000] kr kr kr (orc10 b0 0 1000 (inB_of (by omega) (by omega) (by omega) (by omega))) ?_
   refine sv_run 1 ?_
   refine sv_see 14 (.int .i64 1) (see_int (x := (Int.tmod (0 + b0 % (1000 - 0 + 1)) 7)) kr hm) ?_
   refine sv_run 2 ?_
   refine sv_rd 17 (s1 6 xi.length) 23 10 3 kr kr kr kr (veq_slice _ _ _) kr ?_
   refine sv_run 1 ?_
   refine sv_ix 19 (.pointer (some ⟨6, 0 + i * 1, none⟩)) i xi.length kr kr kr (by omega) kr kr ?_
   refine sv_rd 20 (.int .u32 b3) 24 6 (0 + i * 1) kr kr kr (ld_cell (l := xi) (e := 24) (ro := true) (k := i) (j := 0) uC_len kr kr kr hb3 rfl) (veq_int _ _) kr ?_
   refine sv_run 3 ?_
   refine sv_end kr ?_
   refine sd_run 11 (sdE 28 (nd : Int) 0 (by omega) kr (sd_run 85 ?_))
   refine sdY (c5A 0 (i : Int) 0 0 b3) hX [(iiCo c false), (inCo od false), (inCo rd false), (inCo xo true), (inCo xa true), (inCo xb true), (uCo xi true), (inCo xd true), (inCo xr true)] i9_ ⟨iiC_b, inC_b, inC_b, inC_b, inC_b, inC_b, uC_b, inC_b, inC_b, ⟨⟩⟩ ⟨0, (i : Int), 0, 0, b3, (by simp only [ok5]; exact ⟨(by omega), (by omega), (by omega), (by omega), (by omega)⟩), rfl, rfl⟩
  ·skip
   refine scall_sd 114 _ 9 kr f11_fn f11_body rfl rfl rfl fun X hX => ?_
   refine sd_run 8 (sd_drawP kr ?_)
   refine svp_go 3 ?_
   refine svp_line ?_
   refine sv_ix 11 (.pointer (some ⟨3, 0 + i * 1, none⟩)) i xo.length kr kr kr (by omega) kr kr ?_
   refine sv_ld 12 (.int .i64 b0) 3 (.pointer (some ⟨3, 0 + i * 1, none⟩)) kr kr kr (ld_cell (l := xo) (e := 3) (ro := true) (k := i) (j := 0) inC_len kr kr kr hb0 rfl) kr ?_
   refine sv_ask 13 (.int .i64 (0 + b0 % (1000 - 0 + 1))) 10 #[.int .i64 b0, .int .i64 0, .int .i64 1000] kr kr kr (orc10 b0 0 1000 (inB_of (by omega) (by omega) (by omega) (by omega))) ?_
   refine sv_run 1 ?_
   refine sv_see 14 (.int .i64 1) (see_int (x := (Int.tmod (0 + b0 % (1000 - 0 + 1)) 7)) kr hm) ?_
   refine sv_run 2 ?_
   refine sv_rd 17 (s1 6 xi.length) 23 10 3 kr kr kr kr (veq_slice _ _ _) kr ?_
   refine sv_run 1 ?_
   refine sv_ix 19 (.pointer (some ⟨6, 0 + i * 1, none⟩)) i xi.length kr kr kr (by omega) kr kr ?_
   refine sv_rd 20 (.int .u32 b3) 24 6 (0 + i * 1) kr kr kr (ld_cell (l := xi) (e := 24) (ro := true) (k := i) (j := 0) uC_len kr kr kr hb3 rfl) (veq_int _ _) kr ?_
   refine sv_run 3 ?_
   refine sv_end kr ?_
   refine sd_run 11 (sdN 28 (nd : Int) 0 (by omega) kr (sd_run 57 (sd_see 62 (.int .u32 nd) (see_int (x := (IntKind.u32.wrap nd)) kr (wu32 rfl (by omega) (by omega))) (sd_bin 63 (.int .u32 (Int.tmod b3 nd)) .rem 24 (.int .u32 b3) (.int .u32 nd) kr kr kr (ab_rem (beq_eq_false_iff_ne.2 (by omega))) (sd_run 12 ?_)))))
   refine sdY (c5A 1 (i : Int) 0 0 (Int.tmod b3 nd)) hX [(iiCo c false), (inCo od false), (inCo rd false), (inCo xo true), (inCo xa true), (inCo xb true), (uCo xi true), (inCo xd true), (inCo xr true)] i9_ ⟨iiC_b, inC_b, inC_b, inC_b, inC_b, inC_b, uC_b, inC_b, inC_b, ⟨⟩⟩ ⟨1, (i : Int), 0, 0, (Int.tmod b3 nd), (by simp only [ok5]; exact ⟨(by omega), (by omega), (by omega), (by omega), (tmu (by omega) (by omega))⟩), rfl, rfl⟩
 ·skip
  by_cases hz : nr = 0
  ·skip
   refine scall_sd 114 _ 9 kr f11_fn f11_body rfl rfl rfl fun X hX => ?_
   refine sd_run 8 (sd_drawP kr ?_)
   refine svp_go 3 ?_
   refine svp_line ?_
   refine sv_ix 11 (.pointer (some ⟨3, 0 + i * 1, none⟩)) i xo.length kr kr kr (by omega) kr kr ?_
   refine sv_ld 12 (.int .i64 b0) 3 (.pointer (some ⟨3, 0 + i * 1, none⟩)) kr kr kr (ld_cell (l := xo) (e := 3) (ro := true) (k := i) (j := 0) inC_len kr kr kr hb0 rfl) kr ?_
   refine sv_ask 13 (.int .i64 (0 + b0 % (1000 - 0 + 1))) 10 #[.int .i64 b0, .int .i64 0, .int .i64 1000] kr kr kr (orc10 b0 0 1000 (inB_of (by omega) (by omega) (by omega) (by omega))) ?_
   refine sv_run 1 ?_
   refine sv_see 14 (.int .i64 2) (see_int (x := (Int.tmod (0 + b0 % (1000 - 0 + 1)) 7)) kr hm) ?_
   refine sv_run 2 ?_
   refine sv_rd 17 (s1 6 xi.length) 23 10 3 kr kr kr kr (veq_slice _ _ _) kr ?_
   refine sv_run 1 ?_
   refine sv_ix 19 (.pointer (some ⟨6, 0 + i * 1, none⟩)) i xi.length kr kr kr (by omega) kr kr ?_
   refine sv_rd 20 (.int .u32 b3) 24 6 (0 + i * 1) kr kr kr (ld_cell (l := xi) (e := 24) (ro := true) (k := i) (j := 0) uC_len kr kr kr hb3 rfl) (veq_int _ _) kr ?_
   refine sv_run 3 ?_
   refine sv_end kr ?_
   refine sd_run 20 (sdE 37 (nr : Int) 0 (by omega) kr (sd_run 76 ?_))
   refine sdY (c5A 0 (i : Int) 0 0 b3) hX [(iiCo c false), (inCo od false), (inCo rd false), (inCo xo true), (inCo xa true), (inCo xb true), (uCo xi true), (inCo xd true), (inCo xr true)] i9_ ⟨iiC_b, inC_b, inC_b, inC_b, inC_b, inC_b, uC_b, inC_b, inC_b, ⟨⟩⟩ ⟨0, (i : Int), 0, 0, b3, (by simp only [ok5]; exact ⟨(by omega), (by omega), (by omega), (by omega), (by omega)⟩), rfl, rfl⟩
  ·skip
   refine scall_sd 114 _ 9 kr f11_fn f11_body rfl rfl rfl fun X hX => ?_
   refine sd_run 8 (sd_drawP kr ?_)
   refine svp_go 3 ?_
   refine svp_line ?_
   refine sv_ix 11 (.pointer (some ⟨3, 0 + i * 1, none⟩)) i xo.length kr kr kr (by omega) kr kr ?_
   refine sv_ld 12 (.int .i64 b0) 3 (.pointer (some ⟨3, 0 + i * 1, none⟩)) kr kr kr (ld_cell (l := xo) (e := 3) (ro := true) (k := i) (j := 0) inC_len kr kr kr hb0 rfl) kr ?_
   refine sv_ask 13 (.int .i64 (0 + b0 % (1000 - 0 + 1))) 10 #[.int .i64 b0, .int .i64 0, .int .i64 1000] kr kr kr (orc10 b0 0 1000 (inB_of (by omega) (by omega) (by omega) (by omega))) ?_
   refine sv_run 1 ?_
   refine sv_see 14 (.int .i64 2) (see_int (x := (Int.tmod (0 + b0 % (1000 - 0 + 1)) 7)) kr hm) ?_
   refine sv_run 2 ?_
   refine sv_rd 17 (s1 6 xi.length) 23 10 3 kr kr kr kr (veq_slice _ _ _) kr ?_
   refine sv_run 1 ?_
   refine sv_ix 19 (.pointer (some ⟨6, 0 + i * 1, none⟩)) i xi.length kr kr kr (by omega) kr kr ?_
   refine sv_rd 20 (.int .u32 b3) 24 6 (0 + i * 1) kr kr kr (ld_cell (l := xi) (e := 24) (ro := true) (k := i) (j := 0) uC_len kr kr kr hb3 rfl) (veq_int _ _) kr ?_
   refine sv_run 3 ?_
   refine sv_end kr ?_
   refine sd_run 20 (sdN 37 (nr : Int) 0 (by omega) kr (sd_run 55 (sd_see 71 (.int .u32 nr) (see_int (x := (IntKind.u32.wrap nr)) kr (wu32 rfl (by omega) (by omega))) (sd_bin 72 (.int .u32 (Int.tmod b3 nr)) .rem 24 (.int .u32 b3) (.int .u32 nr) kr kr kr (ab_rem (beq_eq_false_iff_ne.2 (by omega))) (sd_run 12 ?_)))))
   refine sdY (c5A 2 (i : Int) 0 0 (Int.tmod b3 nr)) hX [(iiCo c false), (inCo od false), (inCo rd false), (inCo xo true), (inCo xa true), (inCo xb true), (uCo xi true), (inCo xd true), (inCo xr true)] i9_ ⟨iiC_b, inC_b, inC_b, inC_b, inC_b, inC_b, uC_b, inC_b, inC_b, ⟨⟩⟩ ⟨2, (i : Int), 0, 0, (Int.tmod b3 nr), (by simp only [ok5]; exact ⟨(by omega), (by omega), (by omega), (by omega), (tmu (by omega) (by omega))⟩), rfl, rfl⟩
 ·skip
  by_cases hz : i = 0
  ·skip
   refine scall_sd 114 _ 9 kr f11_fn f11_body rfl rfl rfl fun X hX => ?_
   refine sd_run 8 (sd_drawP kr ?_)
   refine svp_go 3 ?_
   refine svp_line ?_
   refine sv_ix 11 (.pointer (some ⟨3, 0 + i * 1, none⟩)) i xo.length kr kr kr (by omega) kr kr ?_
   refine sv_ld 12 (.int .i64 b0) 3 (.pointer (some ⟨3, 0 + i * 1, none⟩)) kr kr kr (ld_cell (l := xo) (e := 3) (ro := true) (k := i) (j := 0) inC_len kr kr kr hb0 rfl) kr ?_
   refine sv_ask 13 (.int .i64 (0 + b0 % (1000 - 0 + 1))) 10 #[.int .i64 b0, .int .i64 0, .int .i64 1000] kr kr kr (orc10 b0 0 1000 (inB_of (by omega) (by omega) (by omega) (by omega))) ?_
   refine sv_run 1 ?_
   refine sv_see 14 (.int .i64 3) (see_int (x := (Int.tmod (0 + b0 % (1000 - 0 + 1)) 7)) kr hm) ?_
   refine sv_run 2 ?_
   refine sv_rd 17 (s1 6 xi.length) 23 10 3 kr kr kr kr (veq_slice _ _ _) kr ?_
   refine sv_run 1 ?_
   refine sv_ix 19 (.pointer (some ⟨6, 0 + i * 1, none⟩)) i xi.length kr kr kr (by omega) kr kr ?_
   refine sv_rd 20 (.int .u32 b3) 24 6 (0 + i * 1) kr kr kr (ld_cell (l := xi) (e := 24) (ro := true) (k := i) (j := 0) uC_len kr kr kr hb3 rfl) (veq_int _ _) kr ?_
   refine sv_run 3 ?_
   refine sv_end kr ?_
   refine sd_run 29 (sdE 46 (i : Int) 0 (by omega) kr (sd_run 67 ?_))
   refine sdY (c5A 0 (i : Int) 0 0 b3) hX [(iiCo c false), (inCo od false), (inCo rd false), (inCo xo true), (inCo xa true), (inCo xb true), (uCo xi true), (inCo xd true), (inCo xr true)] i9_ ⟨iiC_b, inC_b, inC_b, inC_b, inC_b, inC_b, uC_b, inC_b, inC_b, ⟨⟩⟩ ⟨0, (i : Int), 0, 0, b3, (by simp only [ok5]; exact ⟨(by omega), (by omega), (by omega), (by omega), (by omega)⟩), rfl, rfl⟩
  ·skip
   refine scall_sd 114 _ 9 kr f11_fn f11_body rfl rfl rfl fun X hX => ?_
   refine sd_run 8 (sd_drawP kr ?_)
   refine svp_go 3 ?_
   refine svp_line ?_
   refine sv_ix 11 (.pointer (some ⟨3, 0 + i * 1, none⟩)) i xo.length kr kr kr (by omega) kr kr ?_
   refine sv_ld 12 (.int .i64 b0) 3 (.pointer (some ⟨3, 0 + i * 1, none⟩)) kr kr kr (ld_cell (l := xo) (e := 3) (ro := true) (k := i) (j := 0) inC_len kr kr kr hb0 rfl) kr ?_
   refine sv_ask 13 (.int .i64 (0 + b0 % (1000 - 0 + 1))) 10 #[.int .i64 b0, .int .i64 0, .int .i64 1000] kr kr kr (orc10 b0 0 1000 (inB_of (by omega) (by omega) (by omega) (by omega))) ?_
   refine sv_run 1 ?_
   refine sv_see 14 (.int .i64 3) (see_int (x := (Int.tmod (0 + b0 % (1000 - 0 + 1)) 7)) kr hm) ?_
   refine sv_run 2 ?_
   refine sv_rd 17 (s1 6 xi.length) 23 10 3 kr kr kr kr (veq_slice _ _ _) kr ?_
   refine sv_run 1 ?_
   refine sv_ix 19 (.pointer (some ⟨6, 0 + i * 1, none⟩)) i xi.length kr kr kr (by omega) kr kr ?_
   refine sv_rd 20 (.int .u32 b3) 24 6 (0 + i * 1) kr kr kr (ld_cell (l := xi) (e := 24) (ro := true) (k := i) (j := 0) uC_len kr kr kr hb3 rfl) (veq_int _ _) kr ?_
   refine sv_run 3 ?_
   refine sv_end kr ?_
   refine sd_run 29 (sdN 46 (i : Int) 0 (by omega) kr (sd_run 52 (sd_drawP kr ?_)))
   refine svp_go 3 ?_
   refine svp_line ?_
   refine sv_ix 80 (.pointer (some ⟨4, 0 + i * 1, none⟩)) i xa.length kr kr kr (by omega) kr kr ?_
   refine sv_ld 81 (.int .i64 b1) 3 (.pointer (some ⟨4, 0 + i * 1, none⟩)) kr kr kr (ld_cell (l := xa) (e := 3) (ro := true) (k := i) (j := 0) inC_len kr kr kr hb1 rfl) kr ?_
   refine sv_run 2 ?_
   refine sv_see 83 (.int .i64 ((i : Int) - 1)) (see_int (x := (IntKind.i64.wrap ((i : Int) - 1))) kr (w64 (by omega) (by omega) (by omega))) ?_
   refine sv_ask 84 (.int .i64 (0 + b1 % (((i : Int) - 1) - 0 + 1))) 10 #[.int .i64 b1, .int .i64 0, .int .i64 ((i : Int) - 1)] kr kr kr (orc10 b1 0 ((i : Int) - 1) (inB_of (by omega) (by omega) (by omega) (by omega))) ?_
   refine sv_run 1 ?_
   refine sv_rd 86 (s1 5 xb.length) 22 10 2 kr kr kr kr (veq_slice _ _ _) kr ?_
   refine sv_run 1 ?_
   refine sv_ix 88 (.pointer (some ⟨5, 0 + i * 1, none⟩)) i xb.length kr kr kr (by omega) kr kr ?_
   refine sv_rd 89 (.int .i64 b2) 3 5 (0 + i * 1) kr kr kr (ld_cell (l := xb) (e := 3) (ro := true) (k := i) (j := 0) inC_len kr kr kr hb2 rfl) (veq_int _ _) kr ?_
   refine sv_run 2 ?_
   refine sv_see 91 (.int .i64 ((i : Int) - 1)) (see_int (x := (IntKind.i64.wrap ((i : Int) - 1))) kr (w64 (by omega) (by omega) (by omega))) ?_
   refine sv_ask 92 (.int .i64 (0 + b2 % (((i : Int) - 1) - 0 + 1))) 10 #[.int .i64 b2, .int .i64 0, .int .i64 ((i : Int) - 1)] kr kr kr (orc10 b2 0 ((i : Int) - 1) (inB_of (by omega) (by omega) (by omega) (by omega))) ?_
   refine sv_run 4 ?_
   refine sv_end kr ?_
   refine sd_run 38 ?_
   refine sdY (c5A 3 (i : Int) (0 + b1 % (((i : Int) - 1) - 0 + 1)) (0 + b2 % (((i : Int) - 1) - 0 + 1)) (IntKind.u32.wrap (16 + (Int.tmod b3 8)))) hX [(iiCo c false), (inCo od false), (inCo rd false), (inCo xo true), (inCo xa true), (inCo xb true), (uCo xi true), (inCo xd true), (inCo xr true)] i9_ ⟨iiC_b, inC_b, inC_b, inC_b, inC_b, inC_b, uC_b, inC_b, inC_b, ⟨⟩⟩ ⟨3, (i : Int), (0 + b1 % (((i : Int) - 1) - 0 + 1)), (0 + b2 % (((i : Int) - 1) - 0 + 1)), (IntKind.u32.wrap (16 + (Int.tmod b3 8))), (by simp only [ok5]; exact ⟨(by omega), (by omega), (wi_ok (by omega) (by omega)), (wi_ok (by omega) (by omega)), (tm816 (by omega))⟩), rfl, rfl⟩
 ·skip
  by_cases hz : i = 0
  ·skip
   refine scall_sd 114 _ 9 kr f11_fn f11_body rfl rfl rfl fun X hX => ?_
   refine sd_run 8 (sd_drawP kr ?_)
   refine svp_go 3 ?_
   refine svp_line ?_
   refine sv_ix 11 (.pointer (some ⟨3, 0 + i * 1, none⟩)) i xo.length kr kr kr (by omega) kr kr ?_
   refine sv_ld 12 (.int .i64 b0) 3 (.pointer (some ⟨3, 0 + i * 1, none⟩)) kr kr kr (ld_cell (l := xo) (e := 3) (ro := true) (k := i) (j := 0) inC_len kr kr kr hb0 rfl) kr ?_
   refine sv_ask 13 (.int .i64 (0 + b0 % (1000 - 0 + 1))) 10 #[.int .i64 b0, .int .i64 0, .int .i64 1000] kr kr kr (orc10 b0 0 1000 (inB_of (by omega) (by omega) (by omega) (by omega))) ?_
   refine sv_run 1 ?_
   refine sv_see 14 (.int .i64 4) (see_int (x := (Int.tmod (0 + b0 % (1000 - 0 + 1)) 7)) kr hm) ?_
   refine sv_run 2 ?_
   refine sv_rd 17 (s1 6 xi.length) 23 10 3 kr kr kr kr (veq_slice _ _ _) kr ?_
   refine sv_run 1 ?_
   refine sv_ix 19 (.pointer (some ⟨6, 0 + i * 1, none⟩)) i xi.length kr kr kr (by omega) kr kr ?_
   refine sv_rd 20 (.int .u32 b3) 24 6 (0 + i * 1) kr kr kr (ld_cell (l := xi) (e := 24) (ro := true) (k := i) (j := 0) uC_len kr kr kr hb3 rfl) (veq_int _ _) kr ?_
   refine sv_run 3 ?_
   refine sv_end kr ?_
   refine sd_run 29 (sdE 46 (i : Int) 0 (by omega) kr (sd_run 67 ?_))
   refine sdY (c5A 0 (i : Int) 0 0 b3) hX [(iiCo c false), (inCo od false), (inCo rd false), (inCo xo true), (inCo xa true), (inCo xb true), (uCo xi true), (inCo xd true), (inCo xr true)] i9_ ⟨iiC_b, inC_b, inC_b, inC_b, inC_b, inC_b, uC_b, inC_b, inC_b, ⟨⟩⟩ ⟨0, (i : Int), 0, 0, b3, (by simp only [ok5]; exact ⟨(by omega), (by omega), (by omega), (by omega), (by omega)⟩), rfl, rfl⟩
  ·skip
   rcases Bool.eq_false_or_eq_true (((Int.tmod b3 9) : Int) == 0) with hc9 | hc9
   ·skip
    refine scall_sd 114 _ 9 kr f11_fn f11_body rfl rfl rfl fun X hX => ?_
    refine sd_run 8 (sd_drawP kr ?_)
    refine svp_go 3 ?_
    refine svp_line ?_
    refine sv_ix 11 (.pointer (some ⟨3, 0 + i * 1, none⟩)) i xo.length kr kr kr (by omega) kr kr ?_
    refine sv_ld 12 (.int .i64 b0) 3 (.pointer (some ⟨3, 0 + i * 1, none⟩)) kr kr kr (ld_cell (l := xo) (e := 3) (ro := true) (k := i) (j := 0) inC_len kr kr kr hb0 rfl) kr ?_
    refine sv_ask 13 (.int .i64 (0 + b0 % (1000 - 0 + 1))) 10 #[.int .i64 b0, .int .i64 0, .int .i64 1000] kr kr kr (orc10 b0 0 1000 (inB_of (by omega) (by omega) (by omega) (by omega))) ?_
    refine sv_run 1 ?_
    refine sv_see 14 (.int .i64 4) (see_int (x := (Int.tmod (0 + b0 % (1000 - 0 + 1)) 7)) kr hm) ?_
    refine sv_run 2 ?_
    refine sv_rd 17 (s1 6 xi.length) 23 10 3 kr kr kr kr (veq_slice _ _ _) kr ?_
    refine sv_run 1 ?_
    refine sv_ix 19 (.pointer (some ⟨6, 0 + i * 1, none⟩)) i xi.length kr kr kr (by omega) kr kr ?_
    refine sv_rd 20 (.int .u32 b3) 24 6 (0 + i * 1) kr kr kr (ld_cell (l := xi) (e := 24) (ro := true) (k := i) (j := 0) uC_len kr kr kr hb3 rfl) (veq_int _ _) kr ?_
    refine sv_run 3 ?_
    refine sv_end kr ?_
    refine sd_run 29 (sdN 46 (i : Int) 0 (by omega) kr (sd_run 55 (sd_drawP kr ?_)))
    refine svp_go 3 ?_
    refine svp_line ?_
    refine sv_ix 80 (.pointer (some ⟨4, 0 + i * 1, none⟩)) i xa.length kr kr kr (by omega) kr kr ?_
    refine sv_ld 81 (.int .i64 b1) 3 (.pointer (some ⟨4, 0 + i * 1, none⟩)) kr kr kr (ld_cell (l := xa) (e := 3) (ro := true) (k := i) (j := 0) inC_len kr kr kr hb1 rfl) kr ?_
    refine sv_run 2 ?_
    refine sv_see 83 (.int .i64 ((i : Int) - 1)) (see_int (x := (IntKind.i64.wrap ((i : Int) - 1))) kr (w64 (by omega) (by omega) (by omega))) ?_
    refine sv_ask 84 (.int .i64 (0 + b1 % (((i : Int) - 1) - 0 + 1))) 10 #[.int .i64 b1, .int .i64 0, .int .i64 ((i : Int) - 1)] kr kr kr (orc10 b1 0 ((i : Int) - 1) (inB_of (by omega) (by omega) (by omega) (by omega))) ?_
    refine sv_run 1 ?_
    refine sv_rd 86 (s1 5 xb.length) 22 10 2 kr kr kr kr (veq_slice _ _ _) kr ?_
    refine sv_run 1 ?_
    refine sv_ix 88 (.pointer (some ⟨5, 0 + i * 1, none⟩)) i xb.length kr kr kr (by omega) kr kr ?_
    refine sv_rd 89 (.int .i64 b2) 3 5 (0 + i * 1) kr kr kr (ld_cell (l := xb) (e := 3) (ro := true) (k := i) (j := 0) inC_len kr kr kr hb2 rfl) (veq_int _ _) kr ?_
    refine sv_run 2 ?_
    refine sv_see 91 (.int .i64 ((i : Int) - 1)) (see_int (x := (IntKind.i64.wrap ((i : Int) - 1))) kr (w64 (by omega) (by omega) (by omega))) ?_
    refine sv_ask 92 (.int .i64 (0 + b2 % (((i : Int) - 1) - 0 + 1))) 10 #[.int .i64 b2, .int .i64 0, .int .i64 ((i : Int) - 1)] kr kr kr (orc10 b2 0 ((i : Int) - 1) (inB_of (by omega) (by omega) (by omega) (by omega))) ?_
    refine sv_run 4 ?_
    refine sv_end kr ?_
    refine sd_run 20 (sd_ix 107 (.pointer (some ⟨6, 0 + i * 1, none⟩)) i xi.length kr kr kr (by omega) (sd_ld 108 (.int .u32 b3) 24 (.pointer (some ⟨6, 0 + i * 1, none⟩)) kr kr kr (ld_cell (l := xi) (e := 24) (ro := true) (k := i) (j := 0) uC_len kr kr kr hb3 rfl) (sd_run 3 (sd_see 111 (.bool true) (see_bool kr hc9) (sd_run 16 ?_)))))
    refine sdY (c5A 4 (i : Int) (0 + b1 % (((i : Int) - 1) - 0 + 1)) (0 + b2 % (((i : Int) - 1) - 0 + 1)) 25) hX [(iiCo c false), (inCo od false), (inCo rd false), (inCo xo true), (inCo xa true), (inCo xb true), (uCo xi true), (inCo xd true), (inCo xr true)] i9_ ⟨iiC_b, inC_b, inC_b, inC_b, inC_b, inC_b, uC_b, inC_b, inC_b, ⟨⟩⟩ ⟨4, (i : Int), (0 + b1 % (((i : Int) - 1) - 0 + 1)), (0 + b2 % (((i : Int) - 1) - 0 + 1)), 25, (by simp only [ok5]; exact ⟨(by omega), (by omega), (wi_ok (by omega) (by omega)), (wi_ok (by omega) (by omega)), (by omega)⟩), rfl, rfl⟩
   ·skip
    refine scall_sd 114 _ 9 kr f11_fn f11_body rfl rfl rfl fun X hX => ?_
    refine sd_run 8 (sd_drawP kr ?_)
    refine svp_go 3 ?_
    refine svp_line ?_
    refine sv_ix 11 (.pointer (some ⟨3, 0 + i * 1, none⟩)) i xo.length kr kr kr (by omega) kr kr ?_
    refine sv_ld 12 (.int .i64 b0) 3 (.pointer (some ⟨3, 0 + i * 1, none⟩)) kr kr kr (ld_cell (l := xo) (e := 3) (ro := true) (k := i) (j := 0) inC_len kr kr kr hb0 rfl) kr ?_
    refine sv_ask 13 (.int .i64 (0 + b0 % (1000 - 0 + 1))) 10 #[.int .i64 b0, .int .i64 0, .int .i64 1000] kr kr kr (orc10 b0 0 1000 (inB_of (by omega) (by omega) (by omega) (by omega))) ?_
    refine sv_run 1 ?_
    refine sv_see 14 (.int .i64 4) (see_int (x := (Int.tmod (0 + b0 % (1000 - 0 + 1)) 7)) kr hm) ?_
    refine sv_run 2 ?_
    refine sv_rd 17 (s1 6 xi.length) 23 10 3 kr kr kr kr (veq_slice _ _ _) kr ?_
    refine sv_run 1 ?_
    refine sv_ix 19 (.pointer (some ⟨6, 0 + i * 1, none⟩)) i xi.length kr kr kr (by omega) kr kr ?_
    refine sv_rd 20 (.int .u32 b3) 24 6 (0 + i * 1) kr kr kr (ld_cell (l := xi) (e := 24) (ro := true) (k := i) (j := 0) uC_len kr kr kr hb3 rfl) (veq_int _ _) kr ?_
    refine sv_run 3 ?_
    refine sv_end kr ?_
    refine sd_run 29 (sdN 46 (i : Int) 0 (by omega) kr (sd_run 55 (sd_drawP kr ?_)))
    refine svp_go 3 ?_
    refine svp_line ?_
    refine sv_ix 80 (.pointer (some ⟨4, 0 + i * 1, none⟩)) i xa.length kr kr kr (by omega) kr kr ?_
    refine sv_ld 81 (.int .i64 b1) 3 (.pointer (some ⟨4, 0 + i * 1, none⟩)) kr kr kr (ld_cell (l := xa) (e := 3) (ro := true) (k := i) (j := 0) inC_len kr kr kr hb1 rfl) kr ?_
    refine sv_run 2 ?_
    refine sv_see 83 (.int .i64 ((i : Int) - 1)) (see_int (x := (IntKind.i64.wrap ((i : Int) - 1))) kr (w64 (by omega) (by omega) (by omega))) ?_
    refine sv_ask 84 (.int .i64 (0 + b1 % (((i : Int) - 1) - 0 + 1))) 10 #[.int .i64 b1, .int .i64 0, .int .i64 ((i : Int) - 1)] kr kr kr (orc10 b1 0 ((i : Int) - 1) (inB_of (by omega) (by omega) (by omega) (by omega))) ?_
    refine sv_run 1 ?_
    refine sv_rd 86 (s1 5 xb.length) 22 10 2 kr kr kr kr (veq_slice _ _ _) kr ?_
    refine sv_run 1 ?_
    refine sv_ix 88 (.pointer (some ⟨5, 0 + i * 1, none⟩)) i xb.length kr kr kr (by omega) kr kr ?_
    refine sv_rd 89 (.int .i64 b2) 3 5 (0 + i * 1) kr kr kr (ld_cell (l := xb) (e := 3) (ro := true) (k := i) (j := 0) inC_len kr kr kr hb2 rfl) (veq_int _ _) kr ?_
    refine sv_run 2 ?_
    refine sv_see 91 (.int .i64 ((i : Int) - 1)) (see_int (x := (IntKind.i64.wrap ((i : Int) - 1))) kr (w64 (by omega) (by omega) (by omega))) ?_
    refine sv_ask 92 (.int .i64 (0 + b2 % (((i : Int) - 1) - 0 + 1))) 10 #[.int .i64 b2, .int .i64 0, .int .i64 ((i : Int) - 1)] kr kr kr (orc10 b2 0 ((i : Int) - 1) (inB_of (by omega) (by omega) (by omega) (by omega))) ?_
    refine sv_run 4 ?_
    refine sv_end kr ?_
    refine sd_run 20 (sd_ix 107 (.pointer (some ⟨6, 0 + i * 1, none⟩)) i xi.length kr kr kr (by omega) (sd_ld 108 (.int .u32 b3) 24 (.pointer (some ⟨6, 0 + i * 1, none⟩)) kr kr kr (ld_cell (l := xi) (e := 24) (ro := true) (k := i) (j := 0) uC_len kr kr kr hb3 rfl) (sd_run 3 (sd_see 111 (.bool false) (see_bool kr hc9) (sd_run 13 ?_)))))
    refine sdY (c5A 4 (i : Int) (0 + b1 % (((i : Int) - 1) - 0 + 1)) (0 + b2 % (((i : Int) - 1) - 0 + 1)) (IntKind.u32.wrap (16 + (Int.tmod b3 8)))) hX [(iiCo c false), (inCo od false), (inCo rd false), (inCo xo true), (inCo xa true), (inCo xb true), (uCo xi true), (inCo xd true), (inCo xr true)] i9_ ⟨iiC_b, inC_b, inC_b, inC_b, inC_b, inC_b, uC_b, inC_b, inC_b, ⟨⟩⟩ ⟨4, (i : Int), (0 + b1 % (((i : Int) - 1) - 0 + 1)), (0 + b2 % (((i : Int) - 1) - 0 + 1)), (IntKind.u32.wrap (16 + (Int.tmod b3 8))), (by simp only [ok5]; exact ⟨(by omega), (by omega), (wi_ok (by omega) (by omega)), (wi_ok (by omega) (by omega)), (tm816 (by omega))⟩), rfl, rfl⟩
 ·skip
  by_cases hz : i = 0
  ·skip
   refine scall_sd 114 _ 9 kr f11_fn f11_body rfl rfl rfl fun X hX => ?_
   refine sd_run 8 (sd_drawP kr ?_)
   refine svp_go 3 ?_
   refine svp_line ?_
   refine sv_ix 11 (.pointer (some ⟨3, 0 + i * 1, none⟩)) i xo.length kr kr kr (by omega) kr kr ?_
   refine sv_ld 12 (.int .i64 b0) 3 (.pointer (some ⟨3, 0 + i * 1, none⟩)) kr kr kr (ld_cell (l := xo) (e := 3) (ro := true) (k := i) (j := 0) inC_len kr kr kr hb0 rfl) kr ?_
   refine sv_ask 13 (.int .i64 (0 + b0 % (1000 - 0 + 1))) 10 #[.int .i64 b0, .int .i64 0, .int .i64 1000] kr kr kr (orc10 b0 0 1000 (inB_of (by omega) (by omega) (by omega) (by omega))) ?_
   refine sv_run 1 ?_
   refine sv_see 14 (.int .i64 5) (see_int (x := (Int.tmod (0 + b0 % (1000 - 0 + 1)) 7)) kr hm) ?_
   refine sv_run 2 ?_
   refine sv_rd 17 (s1 6 xi.length) 23 10 3 kr kr kr kr (veq_slice _ _ _) kr ?_
   refine sv_run 1 ?_
   refine sv_ix 19 (.pointer (some ⟨6, 0 + i * 1, none⟩)) i xi.length kr kr kr (by omega) kr kr ?_
   refine sv_rd 20 (.int .u32 b3) 24 6 (0 + i * 1) kr kr kr (ld_cell (l := xi) (e := 24) (ro := true) (k := i) (j := 0) uC_len kr kr kr hb3 rfl) (veq_int _ _) kr ?_
   refine sv_run 3 ?_
   refine sv_end kr ?_
   refine sd_run 29 (sdE 46 (i : Int) 0 (by omega) kr (sd_run 67 ?_))
   refine sdY (c5A 0 (i : Int) 0 0 b3) hX [(iiCo c false), (inCo od false), (inCo rd false), (inCo xo true), (inCo xa true), (inCo xb true), (uCo xi true), (inCo xd true), (inCo xr true)] i9_ ⟨iiC_b, inC_b, inC_b, inC_b, inC_b, inC_b, uC_b, inC_b, inC_b, ⟨⟩⟩ ⟨0, (i : Int), 0, 0, b3, (by simp only [ok5]; exact ⟨(by omega), (by omega), (by omega), (by omega), (by omega)⟩), rfl, rfl⟩
  ·skip
   refine scall_sd 114 _ 9 kr f11_fn f11_body rfl rfl rfl fun X hX => ?_
   refine sd_run 8 (sd_drawP kr ?_)
   refine svp_go 3 ?_
   refine svp_line ?_
   refine sv_ix 11 (.pointer (some ⟨3, 0 + i * 1, none⟩)) i xo.length kr kr kr (by omega) kr kr ?_
   refine sv_ld 12 (.int .i64 b0) 3 (.pointer (some ⟨3, 0 + i * 1, none⟩)) kr kr kr (ld_cell (l := xo) (e := 3) (ro := true) (k := i) (j := 0) inC_len kr kr kr hb0 rfl) kr ?_
   refine sv_ask 13 (.int .i64 (0 + b0 % (1000 - 0 + 1))) 10 #[.int .i64 b0, .int .i64 0, .int .i64 1000] kr kr kr (orc10 b0 0 1000 (inB_of (by omega) (by omega) (by omega) (by omega))) ?_
   refine sv_run 1 ?_
   refine sv_see 14 (.int .i64 5) (see_int (x := (Int.tmod (0 + b0 % (1000 - 0 + 1)) 7)) kr hm) ?_
   refine sv_run 2 ?_
   refine sv_rd 17 (s1 6 xi.length) 23 10 3 kr kr kr kr (veq_slice _ _ _) kr ?_
   refine sv_run 1 ?_
   refine sv_ix 19 (.pointer (some ⟨6, 0 + i * 1, none⟩)) i xi.length kr kr kr (by omega) kr kr ?_
   refine sv_rd 20 (.int .u32 b3) 24 6 (0 + i * 1) kr kr kr (ld_cell (l := xi) (e := 24) (ro := true) (k := i) (j := 0) uC_len kr kr kr hb3 rfl) (veq_int _ _) kr ?_
   refine sv_run 3 ?_
   refine sv_end kr ?_
   refine sd_run 29 (sdN 46 (i : Int) 0 (by omega) kr (sd_run 55 (sd_drawP kr ?_)))
   refine svp_go 3 ?_
   refine svp_line ?_
   refine sv_ix 80 (.pointer (some ⟨4, 0 + i * 1, none⟩)) i xa.length kr kr kr (by omega) kr kr ?_
   refine sv_ld 81 (.int .i64 b1) 3 (.pointer (some ⟨4, 0 + i * 1, none⟩)) kr kr kr (ld_cell (l := xa) (e := 3) (ro := true) (k := i) (j := 0) inC_len kr kr kr hb1 rfl) kr ?_
   refine sv_run 2 ?_
   refine sv_see 83 (.int .i64 ((i : Int) - 1)) (see_int (x := (IntKind.i64.wrap ((i : Int) - 1))) kr (w64 (by omega) (by omega) (by omega))) ?_
   refine sv_ask 84 (.int .i64 (0 + b1 % (((i : Int) - 1) - 0 + 1))) 10 #[.int .i64 b1, .int .i64 0, .int .i64 ((i : Int) - 1)] kr kr kr (orc10 b1 0 ((i : Int) - 1) (inB_of (by omega) (by omega) (by omega) (by omega))) ?_
   refine sv_run 1 ?_
   refine sv_rd 86 (s1 5 xb.length) 22 10 2 kr kr kr kr (veq_slice _ _ _) kr ?_
   refine sv_run 1 ?_
   refine sv_ix 88 (.pointer (some ⟨5, 0 + i * 1, none⟩)) i xb.length kr kr kr (by omega) kr kr ?_
   refine sv_rd 89 (.int .i64 b2) 3 5 (0 + i * 1) kr kr kr (ld_cell (l := xb) (e := 3) (ro := true) (k := i) (j := 0) inC_len kr kr kr hb2 rfl) (veq_int _ _) kr ?_
   refine sv_run 2 ?_
   refine sv_see 91 (.int .i64 ((i : Int) - 1)) (see_int (x := (IntKind.i64.wrap ((i : Int) - 1))) kr (w64 (by omega) (by omega) (by omega))) ?_
   refine sv_ask 92 (.int .i64 (0 + b2 % (((i : Int) - 1) - 0 + 1))) 10 #[.int .i64 b2, .int .i64 0, .int .i64 ((i : Int) - 1)] kr kr kr (orc10 b2 0 ((i : Int) - 1) (inB_of (by omega) (by omega) (by omega) (by omega))) ?_
   refine sv_run 4 ?_
   refine sv_end kr ?_
   refine sd_run 38 ?_
   refine sdY (c5A 3 (i : Int) (0 + b1 % (((i : Int) - 1) - 0 + 1)) (0 + b2 % (((i : Int) - 1) - 0 + 1)) (IntKind.u32.wrap (16 + (Int.tmod b3 8)))) hX [(iiCo c false), (inCo od false), (inCo rd false), (inCo xo true), (inCo xa true), (inCo xb true), (uCo xi true), (inCo xd true), (inCo xr true)] i9_ ⟨iiC_b, inC_b, inC_b, inC_b, inC_b, inC_b, uC_b, inC_b, inC_b, ⟨⟩⟩ ⟨3, (i : Int), (0 + b1 % (((i : Int) - 1) - 0 + 1)), (0 + b2 % (((i : Int) - 1) - 0 + 1)), (IntKind.u32.wrap (16 + (Int.tmod b3 8))), (by simp only [ok5]; exact ⟨(by omega), (by omega), (wi_ok (by omega) (by omega)), (wi_ok (by omega) (by omega)), (tm816 (by omega))⟩), rfl, rfl⟩
 ·skip
  by_cases hz : i = 0
  ·skip
   refine scall_sd 114 _ 9 kr f11_fn f11_body rfl rfl rfl fun X hX => ?_
   refine sd_run 8 (sd_drawP kr ?_)
   refine svp_go 3 ?_
   refine svp_line ?_
   refine sv_ix 11 (.pointer (some ⟨3, 0 + i * 1, none⟩)) i xo.length kr kr kr (by omega) kr kr ?_
   refine sv_ld 12 (.int .i64 b0) 3 (.pointer (some ⟨3, 0 + i * 1, none⟩)) kr kr kr (ld_cell (l := xo) (e := 3) (ro := true) (k := i) (j := 0) inC_len kr kr kr hb0 rfl) kr ?_
   refine sv_ask 13 (.int .i64 (0 + b0 % (1000 - 0 + 1))) 10 #[.int .i64 b0, .int .i64 0, .int .i64 1000] kr kr kr (orc10 b0 0 1000 (inB_of (by omega) (by omega) (by omega) (by omega))) ?_
   refine sv_run 1 ?_
   refine sv_see 14 (.int .i64 6) (see_int (x := (Int.tmod (0 + b0 % (1000 - 0 + 1)) 7)) kr hm) ?_
   refine sv_run 2 ?_
   refine sv_rd 17 (s1 6 xi.length) 23 10 3 kr kr kr kr (veq_slice _ _ _) kr ?_
   refine sv_run 1 ?_
   refine sv_ix 19 (.pointer (some ⟨6, 0 + i * 1, none⟩)) i xi.length kr kr kr (by omega) kr kr ?_
   refine sv_rd 20 (.int .u32 b3) 24 6 (0 + i * 1) kr kr kr (ld_cell (l := xi) (e := 24) (ro := true) (k := i) (j := 0) uC_len kr kr kr hb3 rfl) (veq_int _ _) kr ?_
   refine sv_run 3 ?_
   refine sv_end kr ?_
   refine sd_run 29 (sdE 46 (i : Int) 0 (by omega) kr (sd_run 67 ?_))
   refine sdY (c5A 0 (i : Int) 0 0 b3) hX [(iiCo c false), (inCo od false), (inCo rd false), (inCo xo true), (inCo xa true), (inCo xb true), (uCo xi true), (inCo xd true), (inCo xr true)] i9_ ⟨iiC_b, inC_b, inC_b, inC_b, inC_b, inC_b, uC_b, inC_b, inC_b, ⟨⟩⟩ ⟨0, (i : Int), 0, 0, b3, (by simp only [ok5]; exact ⟨(by omega), (by omega), (by omega), (by omega), (by omega)⟩), rfl, rfl⟩
  ·skip
   refine scall_sd 114 _ 9 kr f11_fn f11_body rfl rfl rfl fun X hX => ?_
   refine sd_run 8 (sd_drawP kr ?_)
   refine svp_go 3 ?_
   refine svp_line ?_
   refine sv_ix 11 (.pointer (some ⟨3, 0 + i * 1, none⟩)) i xo.length kr kr kr (by omega) kr kr ?_
   refine sv_ld 12 (.int .i64 b0) 3 (.pointer (some ⟨3, 0 + i * 1, none⟩)) kr kr kr (ld_cell (l := xo) (e := 3) (ro := true) (k := i) (j := 0) inC_len kr kr kr hb0 rfl) kr ?_
   refine sv_ask 13 (.int .i64 (0 + b0 % (1000 - 0 + 1))) 10 #[.int .i64 b0, .int .i64 0, .int .i64 1000] kr kr kr (orc10 b0 0 1000 (inB_of (by omega) (by omega) (by omega) (by omega))) ?_
   refine sv_run 1 ?_
   refine sv_see 14 (.int .i64 6) (see_int (x := (Int.tmod (0 + b0 % (1000 - 0 + 1)) 7)) kr hm) ?_
   refine sv_run 2 ?_
   refine sv_rd 17 (s1 6 xi.length) 23 10 3 kr kr kr kr (veq_slice _ _ _) kr ?_
   refine sv_run 1 ?_
   refine sv_ix 19 (.pointer (some ⟨6, 0 + i * 1, none⟩)) i xi.length kr kr kr (by omega) kr kr ?_
   refine sv_rd 20 (.int .u32 b3) 24 6 (0 + i * 1) kr kr kr (ld_cell (l := xi) (e := 24) (ro := true) (k := i) (j := 0) uC_len kr kr kr hb3 rfl) (veq_int _ _) kr ?_
   refine sv_run 3 ?_
   refine sv_end kr ?_
   refine sd_run 29 (sdN 46 (i : Int) 0 (by omega) kr (sd_run 55 (sd_drawP kr ?_)))
   refine svp_go 3 ?_
   refine svp_line ?_
   refine sv_ix 80 (.pointer (some ⟨4, 0 + i * 1, none⟩)) i xa.length kr kr kr (by omega) kr kr ?_
   refine sv_ld 81 (.int .i64 b1) 3 (.pointer (some ⟨4, 0 + i * 1, none⟩)) kr kr kr (ld_cell (l := xa) (e := 3) (ro := true) (k := i) (j := 0) inC_len kr kr kr hb1 rfl) kr ?_
   refine sv_run 2 ?_
   refine sv_see 83 (.int .i64 ((i : Int) - 1)) (see_int (x := (IntKind.i64.wrap ((i : Int) - 1))) kr (w64 (by omega) (by omega) (by omega))) ?_
   refine sv_ask 84 (.int .i64 (0 + b1 % (((i : Int) - 1) - 0 + 1))) 10 #[.int .i64 b1, .int .i64 0, .int .i64 ((i : Int) - 1)] kr kr kr (orc10 b1 0 ((i : Int) - 1) (inB_of (by omega) (by omega) (by omega) (by omega))) ?_
   refine sv_run 1 ?_
   refine sv_rd 86 (s1 5 xb.length) 22 10 2 kr kr kr kr (veq_slice _ _ _) kr ?_
   refine sv_run 1 ?_
   refine sv_ix 88 (.pointer (some ⟨5, 0 + i * 1, none⟩)) i xb.length kr kr kr (by omega) kr kr ?_
   refine sv_rd 89 (.int .i64 b2) 3 5 (0 + i * 1) kr kr kr (ld_cell (l := xb) (e := 3) (ro := true) (k := i) (j := 0) inC_len kr kr kr hb2 rfl) (veq_int _ _) kr ?_
   refine sv_run 2 ?_
   refine sv_see 91 (.int .i64 ((i : Int) - 1)) (see_int (x := (IntKind.i64.wrap ((i : Int) - 1))) kr (w64 (by omega) (by omega) (by omega))) ?_
   refine sv_ask 92 (.int .i64 (0 + b2 % (((i : Int) - 1) - 0 + 1))) 10 #[.int .i64 b2, .int .i64 0, .int .i64 ((i : Int) - 1)] kr kr kr (orc10 b2 0 ((i : Int) - 1) (inB_of (by omega) (by omega) (by omega) (by omega))) ?_
   refine sv_run 4 ?_
   refine sv_end kr ?_
   refine sd_run 38 ?_
   refine sdY (c5A 3 (i : Int) (0 + b1 % (((i : Int) - 1) - 0 + 1)) (0 + b2 % (((i : Int) - 1) - 0 + 1)) (IntKind.u32.wrap (16 + (Int.tmod b3 8)))) hX [(iiCo c false), (inCo od false), (inCo rd false), (inCo xo true), (inCo xa true), (inCo xb true), (uCo xi true), (inCo xd true), (inCo xr true)] i9_ ⟨iiC_b, inC_b, inC_b, inC_b, inC_b, inC_b, uC_b, inC_b, inC_b, ⟨⟩⟩ ⟨3, (i : Int), (0 + b1 % (((i : Int) - 1) - 0 + 1)), (0 + b2 % (((i : Int) - 1) - 0 + 1)), (IntKind.u32.wrap (16 + (Int.tmod b3 8))), (by simp only [ok5]; exact ⟨(by omega), (by omega), (wi_ok (by omega) (by omega)), (wi_ok (by omega) (by omega)), (tm816 (by omega))⟩), rfl, rfl⟩
end Ls
end Go.Proofs.YtgpphhdndmdlgaaDoor
