/- Chapter 21: how long values live. -/
import Derived.Test.YtegjicaoemhhlaaJd
namespace Go.Proofs.Ytegjicaoemhhlaa
open Go Go.Ev Go.RowKit
set_option linter.unusedVariables false
set_option linter.unusedSimpArgs false
set_option maxRecDepth 100000
namespace Ls
abbrev IV := Int × Int × Int
def usel (t : Int) (l : List IV) (n : Nat) : List IV := match l[n]? with | some a => l.set n (a.1, a.2.1, max a.2.2 t) | none => l
def useI (t : Int) (l : List IV) (n : Int) : List IV := if 0 ≤ n then usel t l n.toNat else l
def seedl (n : Nat) : List IV := (List.range n).map fun (i : Nat) => ((i : Int), (i : Int), (i : Int))
def codeL (c : List II) : Nat → List IV
 | 0 => seedl c.length
 | k + 1 => match c[k]? with | some x => if x.1 = 3 ∨ x.1 = 4 then useI k (useI k (codeL c k) x.2.2.1) x.2.2.2.1 else codeL c k | none => codeL c k
def outL (t : Int) (l : List IV) (xs : List Int) : List IV := xs.foldl (useI t) l
def ofL (c : List II) (od rd : List Int) (fl tg : Int) : List IV := useI c.length (useI c.length (outL c.length (outL c.length (codeL c c.length) od) rd) fl) tg
@[simp] theorem usel_len (t : Int) (l : List IV) (n : Nat) : (usel t l n).length = l.length := by unfold usel; split <;> simp
@[simp] theorem useI_len (t : Int) (l : List IV) (n : Int) : (useI t l n).length = l.length := by unfold useI; split <;> simp
@[simp] theorem seedl_len (n : Nat) : (seedl n).length = n := by simp [seedl]
@[simp] theorem codeL_len (c : List II) : ∀ k, (codeL c k).length = c.length
 | 0 => by simp [codeL]
 | k + 1 => by unfold codeL; split; (split <;> simp [codeL_len c k]); exact codeL_len c k
@[simp] theorem outL_len (t : Int) : ∀ (xs : List Int) (l : List IV), (outL t l xs).length = l.length
 | [], l => rfl
 | x :: xs, l => by show (outL t (useI t l x) xs).length = _; rw [outL_len t xs]; simp
@[simp] theorem ofL_len (c : List II) (od rd : List Int) (fl tg : Int) : (ofL c od rd fl tg).length = c.length := by simp [ofL]
theorem usel_at {t : Int} {l : List IV} {n : Nat} {a : IV} (h : l[n]? = some a) : l.set n (a.1, a.2.1, max a.2.2 t) = usel t l n := by unfold usel; rw [h]
theorem useI_nat (t : Int) (l : List IV) (n : Nat) : useI t l (n : Int) = usel t l n := by unfold useI; rw [if_pos (by omega)]; rfl
theorem useI_no {t : Int} {l : List IV} {n : Int} (h : n < 0) : useI t l n = l := by unfold useI; rw [if_neg (by omega)]
theorem seedl_succ (k : Nat) : seedl k ++ [((k : Int), (k : Int), (k : Int))] = seedl (k + 1) := by simp [seedl, List.range_succ]
theorem codeL_use {c : List II} {k : Nat} {x : II} (h : c[k]? = some x) (hx : x.1 = 3 ∨ x.1 = 4) : codeL c (k + 1) = useI k (useI k (codeL c k) x.2.2.1) x.2.2.2.1 := by show (match c[k]? with | some x => _ | none => _) = _; rw [h]; exact if_pos hx
theorem codeL_no {c : List II} {k : Nat} {x : II} (h : c[k]? = some x) (hx : ¬ (x.1 = 3 ∨ x.1 = 4)) : codeL c (k + 1) = codeL c k := by show (match c[k]? with | some x => _ | none => _) = _; rw [h]; exact if_neg hx
theorem outL_succ {t : Int} {l : List IV} {xs : List Int} {j : Nat} {x : Int} (h : xs[j]? = some x) : outL t l (xs.take (j + 1)) = useI t (outL t l (xs.take j)) x := by unfold outL; rw [List.take_add_one, h]; simp
theorem made_ab {nd nr : Int} {x : II} {k : Int} (h : madeB nd nr x k = true) (hx : x.1 = 3 ∨ x.1 = 4) : (0 ≤ x.2.2.1 ∧ x.2.2.1 < k) ∧ (0 ≤ x.2.2.2.1 ∧ x.2.2.2.1 < k) := by
 unfold madeB at h
 rcases hx with hx | hx <;> simp [hx, valB] at h <;> omega
theorem valB_iff {n k : Int} : valB n k = true ↔ 0 ≤ n ∧ n < k := by simp [valB]
noncomputable def f48b : Code := Try.f48.body.getD .skip
theorem f48_body : Try.f48.body = some f48b := by kernel_rfl
theorem f48_fn : T16.fn 48 = some Try.f48 := by kernel_rfl
theorem use_s {l : List IV} {N m : Nat} {t : Int} (hm : m = l.length) (hN : N < m) (hml : m < 1099511627776) : SCall Try.prog T16 48 #[.int .i64 (N : Int), .int .i64 t, .pointer (some ⟨0, 0, none⟩)] (hq [some ⟨[Value.slice (some ⟨1, 0, none⟩) m (unk + 3)], 65, false⟩, (ivCo l false)]) fun v h => v = .tuple #[] ∧ h = hq [some ⟨[Value.slice (some ⟨1, 0, none⟩) m (unk + 3)], 65, false⟩, (ivCo (usel t l N) false)] := by
 refine scall_sd 18 _ 2 kr f48_fn f48_body rfl rfl rfl fun X hX => ?_
 refine sd_run 4 (sdT 6 ((N : Int) ≥ 0) (by omega) kr (sd_run 8 (sd_ix 11 (.pointer (some ⟨1, 0 + N * 3, none⟩)) N m kr kr kr (by omega) ?_)))
 obtain ⟨a1, ha1⟩ : ∃ x_, (l)[N]? = some x_ := ⟨_, List.getElem?_eq_getElem (by omega)⟩
 refine sd_run 1 (sd_ld 13 (.int .i64 a1.2.2) 3 (.pointer (some ⟨1, 0 + N * 3 + 2, none⟩)) kr kr kr (ld_cell (l := l) (e := 69) (ro := false) (k := N) (j := 2) ivC_len kr kr kr ha1 rfl) (sd_run 2 (sd_see 15 (.int .i64 (max a1.2.2 t)) (see_int (x := (if t > a1.2.2 then t else a1.2.2)) kr (by split <;> omega)) (sd_ix 16 (.pointer (some ⟨1, 0 + N * 3, none⟩)) N m kr kr kr (by omega) (sd_run 1 (sd_st 3 1 (0 + N * 3 + 2) (.int .i64 (max a1.2.2 t)) (tab ivC ((l).set N (a1.1, a1.2.1, (max a1.2.2 t)))) (cells := tab ivC l) (e := 69) kr kr kr kr (st_cell (k := N) (j := 2) (a' := (a1.1, a1.2.1, (max a1.2.2 t))) ivC_len kr kr ha1 kr rfl) (sd_run 1 ?_)))))))
 refine sdY (.tuple #[]) hX [some ⟨[Value.slice (some ⟨1, 0, none⟩) m (unk + 3)], 65, false⟩, (ivCo (usel t l N) false)] i2_ ⟨brn, bk_flat (tab ivC ((l).set N (a1.1, a1.2.1, (max a1.2.2 t)))) kr (tab_plain ivC_pl _) (congrArg (tab ivC) (usel_at ha1)), ⟨⟩⟩ ⟨rfl, rfl⟩
theorem use_no {l : List IV} {m : Nat} {t : Int}  : SCall Try.prog T16 48 #[.int .i64 (-1), .int .i64 t, .pointer (some ⟨0, 0, none⟩)] (hq [some ⟨[Value.slice (some ⟨1, 0, none⟩) m (unk + 3)], 65, false⟩, (ivCo l false)]) fun v h => v = .tuple #[] ∧ h = hq [some ⟨[Value.slice (some ⟨1, 0, none⟩) m (unk + 3)], 65, false⟩, (ivCo l false)] := by
 refine scall_sd 18 _ 2 kr f48_fn f48_body rfl rfl rfl fun X hX => ?_
 refine sd_run 8 ?_
 refine sdY (.tuple #[]) hX [some ⟨[Value.slice (some ⟨1, 0, none⟩) m (unk + 3)], 65, false⟩, (ivCo l false)] i2_ ⟨brn, ivC_b, ⟨⟩⟩ ⟨rfl, rfl⟩
noncomputable def f26b : Code := Try.f26.body.getD .skip
theorem f26_body : Try.f26.body = some f26b := by kernel_rfl
theorem f26_fn : T16.fn 26 = some Try.f26 := by kernel_rfl
set_option maxHeartbeats 4000000 in
theorem of_s {c : List II} {od rd : List Int} {nd nr hd hr fl nx tg br tk ct : Int} (hR : RightP c od rd nd nr hd hr fl tg br ct (c.length : Int)) (hol : od.length < 1099511627776) (hrl : rd.length < 1099511627776) (hi : ∀ x ∈ c, 0 ≤ x.2.2.2.2 ∧ x.2.2.2.2 < 4294967296) : SCall Try.prog T16 26 #[(pgV (s5 0 c.length) nd nr hd hr (s1 1 od.length) (s1 2 rd.length) fl nx tg br tk ct (c.length : Int))] (hq [(iiCo c false), (inCo od false), (inCo rd false)]) fun v h => v = .slice (some ⟨3, 0, none⟩) c.length (unk + 3) ∧ h = hq [(iiCo c false), (inCo od false), (inCo rd false), (ivCo (ofL c od rd fl tg) false)] := by
 have hlen := hR.len
 refine scall_sd 86 _ 3 kr f26_fn f26_body rfl rfl rfl fun X hX => ?_
 refine sd_run 10 (sdCp 13 23 #[(pgV (s5 0 c.length) nd nr hd hr (s1 1 od.length) (s1 2 rd.length) fl nx tg br tk ct (c.length : Int))] (@right_s c od rd nd nr hd hr fl nx tg br tk ct (c.length : Int) (by omega) hol hrl hi) i3_ ⟨iiC_b, inC_b, inC_b, ⟨⟩⟩ ?_)
 rintro v9 k9 ⟨rfl, rfl⟩
 refine ⟨rfl, .bool (rightB c od rd nd nr hd hr fl tg br ct (c.length : Int)), kr, ?_⟩
 refine sd_see 13 (.bool true) (see_bool kr (rightB_yes hR)) (sd_run 20 ?_)
 refine sd_loop 86 (cl (cl (cr (cl (cr (cr (cr f26b))))))) [.blk 0, .next (cr (cr (cr (cr f26b))))] kr kr kr (fun m9 s9 => ∃ (k : Nat), m9 = c.length - k ∧ (k ≤ c.length) ∧ s9 = ⟨tmL [(1, .pointer (some ⟨3, 0, none⟩)), (3, .pointer (some ⟨4, 0, none⟩)), (16, .int .i64 (c.length : Int)), (17, .int .i64 (k : Int))], hq [(iiCo c false), (inCo od false), (inCo rd false), some ⟨[(s5 0 c.length), .int .i64 nd, .int .i64 nr, .int .i64 hd, .int .i64 hr, (s1 1 od.length), (s1 2 rd.length), .int .i64 fl, .int .u32 nx, .int .i64 tg, .int .i64 br, .int .u32 tk, .int .i64 ct, .int .i64 (c.length : Int)], 29, false⟩, some ⟨[Value.slice (some ⟨5, 0, none⟩) k (unk + 3)], 65, false⟩, (ivCo (seedl k) false)]⟩) (c.length - 0) _ (emOf [some 0, some 1, some 2, some 3, some 4, none]) hX ⟨0, rfl, (by omega), rfl⟩ ⟨sub_of kr kr ⟨iiC_b, inC_b, inC_b, brn, brn, rfl, ⟨⟩⟩, te_of kr kr⟩ kr ?_
 rintro m9 s9 ⟨k, rfl, i1_0, rfl⟩ R1_ hR1_
 by_cases hlt : k < c.length
 ·skip
  refine sd_run 3 (sdT 18 ((k : Int) < (c.length : Int)) (by omega) kr (sd_run 21 (sd_grow 26 65 65 69 2 23 5 k 1 7 (.slice (some ⟨6, 0, none⟩) 1 1) (tab ivC (seedl k)) [Value.int .i64 (k : Int), .int .i64 (k : Int), .int .i64 (k : Int)] (tab ivC (seedl k ++ [((k : Int), (k : Int), (k : Int))])) kr kr kr kr kr ((tab_len ivC_len _).trans (by rw [seedl_len])) kr kr (by decide) kr (by omega) kr (tab_snoc (seedl k) ((k : Int), (k : Int), (k : Int))) (sd_run 6 (sd_see 27 (.int .i64 ((k + 1 : Nat) : Int)) (see_int (x := (IntKind.i64.wrap ((k : Int) + 1))) kr (w64 (by omega) (by omega) (by omega))) (sd_run 2 ?_))))))
  refine sd_inv R1_ kr (hR1_ _ (c.length - (k + 1)) _ (emOf [some 0, some 1, some 2, some 3, some 4, some 7]) (by omega) ⟨k + 1, rfl, (by omega), rfl⟩ ⟨sub_of kr kr ⟨iiC_b, inC_b, inC_b, brn, brn, bk_flat (tab ivC (seedl k ++ [((k : Int), (k : Int), (k : Int))])) kr (tab_plain ivC_pl _) (congrArg (tab ivC) (seedl_succ k)), ⟨⟩⟩, te_of kr kr⟩ kr)
 ·skip
  obtain rfl : k = c.length := by omega
  refine sd_run 3 (sdF 18 ((c.length : Int) < (c.length : Int)) (by omega) kr (sd_run 25 ?_))
  refine sd_loop 86 (cl (cl (cr (cl (cr (cr (cr (cr (cr f26b))))))))) [.blk 2, .next (cr (cr (cr (cr (cr (cr f26b))))))] kr kr kr (fun m9 s9 => ∃ (k : Nat), m9 = c.length - k ∧ (k ≤ c.length) ∧ s9 = ⟨tmL [(1, .pointer (some ⟨3, 0, none⟩)), (3, .pointer (some ⟨4, 0, none⟩)), (5, .func (.func 48) #[] #[.pointer (some ⟨4, 0, none⟩)]), (30, (s5 0 c.length)), (31, .int .i64 (c.length : Int)), (32, .int .i64 (k : Int))], hq [(iiCo c false), (inCo od false), (inCo rd false), some ⟨[(s5 0 c.length), .int .i64 nd, .int .i64 nr, .int .i64 hd, .int .i64 hr, (s1 1 od.length), (s1 2 rd.length), .int .i64 fl, .int .u32 nx, .int .i64 tg, .int .i64 br, .int .u32 tk, .int .i64 ct, .int .i64 (c.length : Int)], 29, false⟩, some ⟨[Value.slice (some ⟨5, 0, none⟩) c.length (unk + 3)], 65, false⟩, (ivCo (codeL c k) false)]⟩) (c.length - 0) _ e6_ hX ⟨0, rfl, (by omega), rfl⟩ ⟨sub_of kr kr ⟨iiC_b, inC_b, inC_b, brn, brn, bk_flat (tab ivC (seedl c.length)) kr (tab_plain ivC_pl _) (congrArg (tab ivC) (by rfl)), ⟨⟩⟩, te_of kr kr⟩ kr ?_
  rintro m9 s9 ⟨k, rfl, i2_0, rfl⟩ R2_ hR2_
  by_cases hltB : k < c.length
  ·skip
   obtain ⟨a1, ha1⟩ : ∃ x_, (c)[k]? = some x_ := ⟨_, List.getElem?_eq_getElem (by omega)⟩
   have hmd := hR.code k a1 ha1
   rcases (by omega : a1.1 = 3 ∨ a1.1 = 4 ∨ (a1.1 ≠ 3 ∧ a1.1 ≠ 4)) with hop | hop | hop
   ·skip
    obtain ⟨⟨qa1, qa2⟩, qb1, qb2⟩ := made_ab hmd (by omega)
    obtain ⟨A, hA⟩ := Int.eq_ofNat_of_zero_le qa1
    obtain ⟨B, hB⟩ := Int.eq_ofNat_of_zero_le qb1
    refine sd_run 3 (sdT 33 ((k : Int) < (c.length : Int)) (by omega) kr (sd_run 11 (sd_ix 35 (.pointer (some ⟨0, 0 + k * 5, none⟩)) k c.length kr kr kr (by omega) (sd_ld 36 (.agg #[.int .i64 a1.1, .int .i64 a1.2.1, .int .i64 a1.2.2.1, .int .i64 a1.2.2.2.1, .int .u32 a1.2.2.2.2]) 61 (.pointer (some ⟨0, 0 + k * 5, none⟩)) kr kr kr (ld_row (l := c) (e := 61) (ro := false) (k := k) iiC_len kr kr kr ha1) (sd_run 9 (sd_see 38 (.int .i64 3) (see_int (x := a1.1) kr (by omega)) (sd_run 14 ?_)))))))
    refine sd_see 47 (.int .i64 (A : Int)) (see_int (x := a1.2.2.1) kr hA) (sd_run 1 (sdC 49 48 #[.int .i64 (A : Int), .int .i64 (k : Int), .pointer (some ⟨4, 0, none⟩)] (@use_s (codeL c k) A c.length (k : Int) (by simp) (by omega) (by omega)) [some 4, some 5] ⟨brn, ivC_b, ⟨⟩⟩ ?_))
    rintro hn9 v9 k9 ⟨rfl, rfl⟩
    refine mkG (.tuple #[]) [(iiCo c false), (inCo od false), (inCo rd false), some ⟨[(s5 0 c.length), .int .i64 nd, .int .i64 nr, .int .i64 hd, .int .i64 hr, (s1 1 od.length), (s1 2 rd.length), .int .i64 fl, .int .u32 nx, .int .i64 tg, .int .i64 br, .int .u32 tk, .int .i64 ct, .int .i64 (c.length : Int)], 29, false⟩, some ⟨[Value.slice (some ⟨5, 0, none⟩) c.length (unk + 3)], 65, false⟩, (ivCo (usel (k : Int) (codeL c k) A) false), some ⟨[Value.int .i64 a1.1, .int .i64 a1.2.1, .int .i64 a1.2.2.1, .int .i64 a1.2.2.2.1, .int .u32 a1.2.2.2.2], 61, false⟩] ⟨cvo, cvo, cvo, cvo, cvs 0 hn9, ivC_c 1, cvo, ⟨⟩⟩ ?_
    refine sd_run 6 (sd_see 52 (.int .i64 (B : Int)) (see_int (x := a1.2.2.2.1) kr hB) (sd_run 1 (sdC 54 48 #[.int .i64 (B : Int), .int .i64 (k : Int), .pointer (some ⟨4, 0, none⟩)] (@use_s (usel (k : Int) (codeL c k) A) B c.length (k : Int) (by simp) (by omega) (by omega)) [some 4, some 5] ⟨brn, ivC_b, ⟨⟩⟩ ?_)))
    rintro hn9 v9 k9 ⟨rfl, rfl⟩
    refine mkG (.tuple #[]) [(iiCo c false), (inCo od false), (inCo rd false), some ⟨[(s5 0 c.length), .int .i64 nd, .int .i64 nr, .int .i64 hd, .int .i64 hr, (s1 1 od.length), (s1 2 rd.length), .int .i64 fl, .int .u32 nx, .int .i64 tg, .int .i64 br, .int .u32 tk, .int .i64 ct, .int .i64 (c.length : Int)], 29, false⟩, some ⟨[Value.slice (some ⟨5, 0, none⟩) c.length (unk + 3)], 65, false⟩, (ivCo (usel (k : Int) (usel (k : Int) (codeL c k) A) B) false), some ⟨[Value.int .i64 a1.1, .int .i64 a1.2.1, .int .i64 a1.2.2.1, .int .i64 a1.2.2.2.1, .int .u32 a1.2.2.2.2], 61, false⟩] ⟨cvo, cvo, cvo, cvo, cvs 0 hn9, ivC_c 1, cvo, ⟨⟩⟩ ?_
    refine sd_run 5 (sd_see 55 (.int .i64 ((k + 1 : Nat) : Int)) (see_int (x := (IntKind.i64.wrap ((k : Int) + 1))) kr (w64 (by omega) (by omega) (by omega))) (sd_run 2 ?_))
    refine sd_inv R2_ kr (hR2_ _ (c.length - (k + 1)) _ e6_ (by omega) ⟨k + 1, rfl, (by omega), rfl⟩ ⟨sub_of kr kr ⟨iiC_b, inC_b, inC_b, brn, brn, bk_flat (tab ivC (usel (k : Int) (usel (k : Int) (codeL c k) A) B)) kr (tab_plain ivC_pl _) (congrArg (tab ivC) (by rw [codeL_use ha1 (by omega), hA, hB, useI_nat, useI_nat])), ⟨⟩⟩, te_of kr kr⟩ kr)
   ·skip
    obtain ⟨⟨qa1, qa2⟩, qb1, qb2⟩ := made_ab hmd (by omega)
    obtain ⟨A, hA⟩ := Int.eq_ofNat_of_zero_le qa1
    obtain ⟨B, hB⟩ := Int.eq_ofNat_of_zero_le qb1
    refine sd_run 3 (sdT 33 ((k : Int) < (c.length : Int)) (by omega) kr (sd_run 11 (sd_ix 35 (.pointer (some ⟨0, 0 + k * 5, none⟩)) k c.length kr kr kr (by omega) (sd_ld 36 (.agg #[.int .i64 a1.1, .int .i64 a1.2.1, .int .i64 a1.2.2.1, .int .i64 a1.2.2.2.1, .int .u32 a1.2.2.2.2]) 61 (.pointer (some ⟨0, 0 + k * 5, none⟩)) kr kr kr (ld_row (l := c) (e := 61) (ro := false) (k := k) iiC_len kr kr kr ha1) (sd_run 9 (sd_see 38 (.int .i64 4) (see_int (x := a1.1) kr (by omega)) (sd_run 4 ?_)))))))
    refine sd_see 42 (.int .i64 4) (see_int (x := a1.1) kr (by omega)) (sd_run 10 (sd_see 47 (.int .i64 (A : Int)) (see_int (x := a1.2.2.1) kr hA) (sd_run 1 (sdC 49 48 #[.int .i64 (A : Int), .int .i64 (k : Int), .pointer (some ⟨4, 0, none⟩)] (@use_s (codeL c k) A c.length (k : Int) (by simp) (by omega) (by omega)) [some 4, some 5] ⟨brn, ivC_b, ⟨⟩⟩ ?_))))
    rintro hn9 v9 k9 ⟨rfl, rfl⟩
    refine mkG (.tuple #[]) [(iiCo c false), (inCo od false), (inCo rd false), some ⟨[(s5 0 c.length), .int .i64 nd, .int .i64 nr, .int .i64 hd, .int .i64 hr, (s1 1 od.length), (s1 2 rd.length), .int .i64 fl, .int .u32 nx, .int .i64 tg, .int .i64 br, .int .u32 tk, .int .i64 ct, .int .i64 (c.length : Int)], 29, false⟩, some ⟨[Value.slice (some ⟨5, 0, none⟩) c.length (unk + 3)], 65, false⟩, (ivCo (usel (k : Int) (codeL c k) A) false), some ⟨[Value.int .i64 a1.1, .int .i64 a1.2.1, .int .i64 a1.2.2.1, .int .i64 a1.2.2.2.1, .int .u32 a1.2.2.2.2], 61, false⟩] ⟨cvo, cvo, cvo, cvo, cvs 0 hn9, ivC_c 1, cvo, ⟨⟩⟩ ?_
    refine sd_run 6 (sd_see 52 (.int .i64 (B : Int)) (see_int (x := a1.2.2.2.1) kr hB) (sd_run 1 (sdC 54 48 #[.int .i64 (B : Int), .int .i64 (k : Int), .pointer (some ⟨4, 0, none⟩)] (@use_s (usel (k : Int) (codeL c k) A) B c.length (k : Int) (by simp) (by omega) (by omega)) [some 4, some 5] ⟨brn, ivC_b, ⟨⟩⟩ ?_)))
    rintro hn9 v9 k9 ⟨rfl, rfl⟩
    refine mkG (.tuple #[]) [(iiCo c false), (inCo od false), (inCo rd false), some ⟨[(s5 0 c.length), .int .i64 nd, .int .i64 nr, .int .i64 hd, .int .i64 hr, (s1 1 od.length), (s1 2 rd.length), .int .i64 fl, .int .u32 nx, .int .i64 tg, .int .i64 br, .int .u32 tk, .int .i64 ct, .int .i64 (c.length : Int)], 29, false⟩, some ⟨[Value.slice (some ⟨5, 0, none⟩) c.length (unk + 3)], 65, false⟩, (ivCo (usel (k : Int) (usel (k : Int) (codeL c k) A) B) false), some ⟨[Value.int .i64 a1.1, .int .i64 a1.2.1, .int .i64 a1.2.2.1, .int .i64 a1.2.2.2.1, .int .u32 a1.2.2.2.2], 61, false⟩] ⟨cvo, cvo, cvo, cvo, cvs 0 hn9, ivC_c 1, cvo, ⟨⟩⟩ ?_
    refine sd_run 5 (sd_see 55 (.int .i64 ((k + 1 : Nat) : Int)) (see_int (x := (IntKind.i64.wrap ((k : Int) + 1))) kr (w64 (by omega) (by omega) (by omega))) (sd_run 2 ?_))
    refine sd_inv R2_ kr (hR2_ _ (c.length - (k + 1)) _ e6_ (by omega) ⟨k + 1, rfl, (by omega), rfl⟩ ⟨sub_of kr kr ⟨iiC_b, inC_b, inC_b, brn, brn, bk_flat (tab ivC (usel (k : Int) (usel (k : Int) (codeL c k) A) B)) kr (tab_plain ivC_pl _) (congrArg (tab ivC) (by rw [codeL_use ha1 (by omega), hA, hB, useI_nat, useI_nat])), ⟨⟩⟩, te_of kr kr⟩ kr)
   ·skip
    refine sd_run 3 (sdT 33 ((k : Int) < (c.length : Int)) (by omega) kr (sd_run 11 (sd_ix 35 (.pointer (some ⟨0, 0 + k * 5, none⟩)) k c.length kr kr kr (by omega) (sd_ld 36 (.agg #[.int .i64 a1.1, .int .i64 a1.2.1, .int .i64 a1.2.2.1, .int .i64 a1.2.2.2.1, .int .u32 a1.2.2.2.2]) 61 (.pointer (some ⟨0, 0 + k * 5, none⟩)) kr kr kr (ld_row (l := c) (e := 61) (ro := false) (k := k) iiC_len kr kr kr ha1) (sd_run 10 (sdN 39 (a1.1 : Int) 3 (by omega) kr (sd_run 4 ?_)))))))
    refine sdN 43 (a1.1 : Int) 4 (by omega) kr (sd_run 9 (sd_see 55 (.int .i64 ((k + 1 : Nat) : Int)) (see_int (x := (IntKind.i64.wrap ((k : Int) + 1))) kr (w64 (by omega) (by omega) (by omega))) (sd_run 2 ?_)))
    refine sd_inv R2_ kr (hR2_ _ (c.length - (k + 1)) _ e6_ (by omega) ⟨k + 1, rfl, (by omega), rfl⟩ ⟨sub_of kr kr ⟨iiC_b, inC_b, inC_b, brn, brn, bk_flat (tab ivC (codeL c k)) kr (tab_plain ivC_pl _) (congrArg (tab ivC) (codeL_no ha1 (by omega)).symm), ⟨⟩⟩, te_of kr kr⟩ kr)
  ·skip
   obtain rfl : k = c.length := by omega
   refine sd_run 3 (sdF 33 ((c.length : Int) < (c.length : Int)) (by omega) kr (sd_run 54 ?_))
   refine sd_loop 86 (cl (cl (cr (cr (cl (cl (cr (cr (cl (cl (cr (cl (cr (cr (cr (cr (cr (cr f26b)))))))))))))))))) [.blk 6, .blk 5, .next (cr (cr (cr (cl (cl (cr (cl (cr (cr (cr (cr (cr (cr f26b))))))))))))), .loop (cl (cl (cr (cl (cr (cr (cr (cr (cr (cr f26b)))))))))), .blk 4, .next (cr (cr (cr (cr (cr (cr (cr f26b)))))))] kr kr kr (fun m9 s9 => ∃ (j : Nat), m9 = od.length - j ∧ (j ≤ od.length) ∧ s9 = ⟨tmL [(1, .pointer (some ⟨3, 0, none⟩)), (3, .pointer (some ⟨4, 0, none⟩)), (5, .func (.func 48) #[] #[.pointer (some ⟨4, 0, none⟩)]), (65, .slice (some ⟨7, 0, none⟩) 3 3), (66, .int .i64 3), (67, .int .i64 0), (71, (s1 1 od.length)), (72, .int .i64 (od.length : Int)), (73, .int .i64 (j : Int))], hq [(iiCo c false), (inCo od false), (inCo rd false), some ⟨[(s5 0 c.length), .int .i64 nd, .int .i64 nr, .int .i64 hd, .int .i64 hr, (s1 1 od.length), (s1 2 rd.length), .int .i64 fl, .int .u32 nx, .int .i64 tg, .int .i64 br, .int .u32 tk, .int .i64 ct, .int .i64 (c.length : Int)], 29, false⟩, some ⟨[Value.slice (some ⟨5, 0, none⟩) c.length (unk + 3)], 65, false⟩, (ivCo (outL (c.length : Int) (codeL c c.length) (od.take j)) false), some ⟨[Value.int .i64 fl, .int .i64 tg], 3, false⟩, some ⟨[(s1 1 od.length), (s1 2 rd.length), .slice (some ⟨6, 0, none⟩) 2 2], 22, false⟩]⟩) (od.length - 0) _ e8_ hX ⟨0, rfl, (by omega), rfl⟩ ⟨sub_of kr kr ⟨iiC_b, inC_b, inC_b, brn, brn, bk_flat (tab ivC (codeL c c.length)) kr (tab_plain ivC_pl _) (congrArg (tab ivC) (by rfl)), brn, brn, ⟨⟩⟩, te_of kr kr⟩ kr ?_
   rintro m9 s9 ⟨j, rfl, i3_0, rfl⟩ R3_ hR3_
   by_cases hlt_od : j < od.length
   ·skip
    obtain ⟨a2, ha2⟩ : ∃ x_, (od)[j]? = some x_ := ⟨_, List.getElem?_eq_getElem (by omega)⟩
    obtain ⟨qa1, qa2⟩ := valB_iff.1 (hR.od_ j a2 ha2)
    obtain ⟨A, hA⟩ := Int.eq_ofNat_of_zero_le qa1
    refine sd_run 3 (sdT 74 ((j : Int) < (od.length : Int)) (by omega) kr (sd_run 10 (sd_ix 75 (.pointer (some ⟨1, 0 + j * 1, none⟩)) j od.length kr kr kr (by omega) (sd_ld 76 (.int .i64 a2) 3 (.pointer (some ⟨1, 0 + j * 1, none⟩)) kr kr kr (ld_cell (l := od) (e := 3) (ro := false) (k := j) (j := 0) inC_len kr kr kr ha2 rfl) (sd_see 76 (.int .i64 (A : Int)) (see_int (x := a2) kr hA) (sd_run 9 (sdC 82 48 #[.int .i64 (A : Int), .int .i64 (c.length : Int), .pointer (some ⟨4, 0, none⟩)] (@use_s (outL (c.length : Int) (codeL c c.length) (od.take j)) A c.length (c.length : Int) (by simp) (by omega) (by omega)) [some 4, some 5] ⟨brn, ivC_b, ⟨⟩⟩ ?_)))))))
    rintro hn9 v9 k9 ⟨rfl, rfl⟩
    refine mkG (.tuple #[]) [(iiCo c false), (inCo od false), (inCo rd false), some ⟨[(s5 0 c.length), .int .i64 nd, .int .i64 nr, .int .i64 hd, .int .i64 hr, (s1 1 od.length), (s1 2 rd.length), .int .i64 fl, .int .u32 nx, .int .i64 tg, .int .i64 br, .int .u32 tk, .int .i64 ct, .int .i64 (c.length : Int)], 29, false⟩, some ⟨[Value.slice (some ⟨5, 0, none⟩) c.length (unk + 3)], 65, false⟩, (ivCo (usel (c.length : Int) (outL (c.length : Int) (codeL c c.length) (od.take j)) A) false), some ⟨[Value.int .i64 fl, .int .i64 tg], 3, false⟩, some ⟨[(s1 1 od.length), (s1 2 rd.length), .slice (some ⟨6, 0, none⟩) 2 2], 22, false⟩] ⟨cvo, cvo, cvo, cvo, cvs 0 hn9, ivC_c 1, cvo, cvo, ⟨⟩⟩ ?_
    refine sd_run 5 (sd_see 83 (.int .i64 ((j + 1 : Nat) : Int)) (see_int (x := (IntKind.i64.wrap ((j : Int) + 1))) kr (w64 (by omega) (by omega) (by omega))) (sd_run 2 ?_))
    refine sd_inv R3_ kr (hR3_ _ (od.length - (j + 1)) _ e8_ (by omega) ⟨j + 1, rfl, (by omega), rfl⟩ ⟨sub_of kr kr ⟨iiC_b, inC_b, inC_b, brn, brn, bk_flat (tab ivC (usel (c.length : Int) (outL (c.length : Int) (codeL c c.length) (od.take j)) A)) kr (tab_plain ivC_pl _) (congrArg (tab ivC) (by rw [outL_succ ha2, hA, useI_nat])), brn, brn, ⟨⟩⟩, te_of kr kr⟩ kr)
   ·skip
    obtain rfl : j = od.length := by omega
    refine sd_run 3 (sdF 74 ((od.length : Int) < (od.length : Int)) (by omega) kr (sd_run 42 ?_))
    refine sd_loop 86 (cl (cl (cr (cr (cl (cl (cr (cr (cl (cl (cr (cl (cr (cr (cr (cr (cr (cr f26b)))))))))))))))))) [.blk 6, .blk 5, .next (cr (cr (cr (cl (cl (cr (cl (cr (cr (cr (cr (cr (cr f26b))))))))))))), .loop (cl (cl (cr (cl (cr (cr (cr (cr (cr (cr f26b)))))))))), .blk 4, .next (cr (cr (cr (cr (cr (cr (cr f26b)))))))] kr kr kr (fun m9 s9 => ∃ (j : Nat), m9 = rd.length - j ∧ (j ≤ rd.length) ∧ s9 = ⟨tmL [(1, .pointer (some ⟨3, 0, none⟩)), (3, .pointer (some ⟨4, 0, none⟩)), (5, .func (.func 48) #[] #[.pointer (some ⟨4, 0, none⟩)]), (65, .slice (some ⟨7, 0, none⟩) 3 3), (66, .int .i64 3), (67, .int .i64 1), (71, (s1 2 rd.length)), (72, .int .i64 (rd.length : Int)), (73, .int .i64 (j : Int))], hq [(iiCo c false), (inCo od false), (inCo rd false), some ⟨[(s5 0 c.length), .int .i64 nd, .int .i64 nr, .int .i64 hd, .int .i64 hr, (s1 1 od.length), (s1 2 rd.length), .int .i64 fl, .int .u32 nx, .int .i64 tg, .int .i64 br, .int .u32 tk, .int .i64 ct, .int .i64 (c.length : Int)], 29, false⟩, some ⟨[Value.slice (some ⟨5, 0, none⟩) c.length (unk + 3)], 65, false⟩, (ivCo (outL (c.length : Int) (outL (c.length : Int) (codeL c c.length) (od.take od.length)) (rd.take j)) false), some ⟨[Value.int .i64 fl, .int .i64 tg], 3, false⟩, some ⟨[(s1 1 od.length), (s1 2 rd.length), .slice (some ⟨6, 0, none⟩) 2 2], 22, false⟩]⟩) (rd.length - 0) _ e8_ hX ⟨0, rfl, (by omega), rfl⟩ ⟨sub_of kr kr ⟨iiC_b, inC_b, inC_b, brn, brn, bk_flat (tab ivC (outL (c.length : Int) (codeL c c.length) (od.take od.length))) kr (tab_plain ivC_pl _) (congrArg (tab ivC) (by rfl)), brn, brn, ⟨⟩⟩, te_of kr kr⟩ kr ?_
    rintro m9 s9 ⟨j, rfl, i4_0, rfl⟩ R4_ hR4_
    by_cases hlt_rd : j < rd.length
    ·skip
     obtain ⟨a3, ha3⟩ : ∃ x_, (rd)[j]? = some x_ := ⟨_, List.getElem?_eq_getElem (by omega)⟩
     obtain ⟨qa1, qa2⟩ := valB_iff.1 (hR.rd_ j a3 ha3)
     obtain ⟨A, hA⟩ := Int.eq_ofNat_of_zero_le qa1
     refine sd_run 3 (sdT 74 ((j : Int) < (rd.length : Int)) (by omega) kr (sd_run 10 (sd_ix 75 (.pointer (some ⟨2, 0 + j * 1, none⟩)) j rd.length kr kr kr (by omega) (sd_ld 76 (.int .i64 a3) 3 (.pointer (some ⟨2, 0 + j * 1, none⟩)) kr kr kr (ld_cell (l := rd) (e := 3) (ro := false) (k := j) (j := 0) inC_len kr kr kr ha3 rfl) (sd_see 76 (.int .i64 (A : Int)) (see_int (x := a3) kr hA) (sd_run 9 (sdC 82 48 #[.int .i64 (A : Int), .int .i64 (c.length : Int), .pointer (some ⟨4, 0, none⟩)] (@use_s (outL (c.length : Int) (outL (c.length : Int) (codeL c c.length) (od.take od.length)) (rd.take j)) A c.length (c.length : Int) (by simp) (by omega) (by omega)) [some 4, some 5] ⟨brn, ivC_b, ⟨⟩⟩ ?_)))))))
     rintro hn9 v9 k9 ⟨rfl, rfl⟩
     refine mkG (.tuple #[]) [(iiCo c false), (inCo od false), (inCo rd false), some ⟨[(s5 0 c.length), .int .i64 nd, .int .i64 nr, .int .i64 hd, .int .i64 hr, (s1 1 od.length), (s1 2 rd.length), .int .i64 fl, .int .u32 nx, .int .i64 tg, .int .i64 br, .int .u32 tk, .int .i64 ct, .int .i64 (c.length : Int)], 29, false⟩, some ⟨[Value.slice (some ⟨5, 0, none⟩) c.length (unk + 3)], 65, false⟩, (ivCo (usel (c.length : Int) (outL (c.length : Int) (outL (c.length : Int) (codeL c c.length) (od.take od.length)) (rd.take j)) A) false), some ⟨[Value.int .i64 fl, .int .i64 tg], 3, false⟩, some ⟨[(s1 1 od.length), (s1 2 rd.length), .slice (some ⟨6, 0, none⟩) 2 2], 22, false⟩] ⟨cvo, cvo, cvo, cvo, cvs 0 hn9, ivC_c 1, cvo, cvo, ⟨⟩⟩ ?_
     refine sd_run 5 (sd_see 83 (.int .i64 ((j + 1 : Nat) : Int)) (see_int (x := (IntKind.i64.wrap ((j : Int) + 1))) kr (w64 (by omega) (by omega) (by omega))) (sd_run 2 ?_))
     refine sd_inv R4_ kr (hR4_ _ (rd.length - (j + 1)) _ e8_ (by omega) ⟨j + 1, rfl, (by omega), rfl⟩ ⟨sub_of kr kr ⟨iiC_b, inC_b, inC_b, brn, brn, bk_flat (tab ivC (usel (c.length : Int) (outL (c.length : Int) (outL (c.length : Int) (codeL c c.length) (od.take od.length)) (rd.take j)) A)) kr (tab_plain ivC_pl _) (congrArg (tab ivC) (by rw [outL_succ ha3, hA, useI_nat])), brn, brn, ⟨⟩⟩, te_of kr kr⟩ kr)
    ·skip
     obtain rfl : j = rd.length := by omega
     refine sd_run 3 (sdF 74 ((rd.length : Int) < (rd.length : Int)) (by omega) kr (sd_run 42 ?_))
     rcases hR.fl_ with hfl | hfl
     ·skip
      subst hfl
      rcases hR.tg_ with htg | htg
      ·skip
       subst htg
       refine sd_run 25 (sdCp 82 48 #[.int .i64 (-1), .int .i64 (c.length : Int), .pointer (some ⟨4, 0, none⟩)] (@use_no (outL (c.length : Int) (outL (c.length : Int) (codeL c c.length) (od.take od.length)) (rd.take rd.length)) c.length (c.length : Int) ) [some 4, some 5] ⟨brn, ivC_b, ⟨⟩⟩ ?_)
       rintro v9 k9 ⟨rfl, rfl⟩
       refine ⟨rfl, .tuple #[], kr, ?_⟩
       refine sd_run 8 (sd_run 25 (sdCp 82 48 #[.int .i64 (-1), .int .i64 (c.length : Int), .pointer (some ⟨4, 0, none⟩)] (@use_no (outL (c.length : Int) (outL (c.length : Int) (codeL c c.length) (od.take od.length)) (rd.take rd.length)) c.length (c.length : Int) ) [some 4, some 5] ⟨brn, ivC_b, ⟨⟩⟩ ?_))
       rintro v9 k9 ⟨rfl, rfl⟩
       refine ⟨rfl, .tuple #[], kr, ?_⟩
       refine sd_run 8 (sd_run 39 ?_)
       refine sdZ (.slice (some ⟨5, 0, none⟩) c.length (unk + 3)) hX (.slice (some ⟨3, 0, none⟩) c.length (unk + 3)) [(iiCo c false), (inCo od false), (inCo rd false), (ivCo (ofL c od rd (-1) (-1)) false)] [some 0, some 1, some 2, some 5] ⟨iiC_b, inC_b, inC_b, bk_flat (tab ivC (outL (c.length : Int) (outL (c.length : Int) (codeL c c.length) (od.take od.length)) (rd.take rd.length))) kr (tab_plain ivC_pl _) (congrArg (tab ivC) (by unfold ofL; simp only [List.take_length, useI_nat, useI_no (show (-1 : Int) < 0 by decide)])), ⟨⟩⟩ ⟨rfl, rfl⟩
      ·skip
       obtain ⟨qtg1, qtg2⟩ := valB_iff.1 htg
       obtain ⟨TG, rfl⟩ := Int.eq_ofNat_of_zero_le qtg1
       refine sd_run 25 (sdCp 82 48 #[.int .i64 (-1), .int .i64 (c.length : Int), .pointer (some ⟨4, 0, none⟩)] (@use_no (outL (c.length : Int) (outL (c.length : Int) (codeL c c.length) (od.take od.length)) (rd.take rd.length)) c.length (c.length : Int) ) [some 4, some 5] ⟨brn, ivC_b, ⟨⟩⟩ ?_)
       rintro v9 k9 ⟨rfl, rfl⟩
       refine ⟨rfl, .tuple #[], kr, ?_⟩
       refine sd_run 8 (sd_run 25 (sdC 82 48 #[.int .i64 (TG : Int), .int .i64 (c.length : Int), .pointer (some ⟨4, 0, none⟩)] (@use_s (outL (c.length : Int) (outL (c.length : Int) (codeL c c.length) (od.take od.length)) (rd.take rd.length)) TG c.length (c.length : Int) (by simp) (by omega) (by omega)) [some 4, some 5] ⟨brn, ivC_b, ⟨⟩⟩ ?_))
       rintro hn9 v9 k9 ⟨rfl, rfl⟩
       refine mkG (.tuple #[]) [(iiCo c false), (inCo od false), (inCo rd false), some ⟨[(s5 0 c.length), .int .i64 nd, .int .i64 nr, .int .i64 hd, .int .i64 hr, (s1 1 od.length), (s1 2 rd.length), .int .i64 (-1), .int .u32 nx, .int .i64 (TG : Int), .int .i64 br, .int .u32 tk, .int .i64 ct, .int .i64 (c.length : Int)], 29, false⟩, some ⟨[Value.slice (some ⟨5, 0, none⟩) c.length (unk + 3)], 65, false⟩, (ivCo (usel (c.length : Int) (outL (c.length : Int) (outL (c.length : Int) (codeL c c.length) (od.take od.length)) (rd.take rd.length)) TG) false), some ⟨[Value.int .i64 (-1), .int .i64 (TG : Int)], 3, false⟩, some ⟨[(s1 1 od.length), (s1 2 rd.length), .slice (some ⟨6, 0, none⟩) 2 2], 22, false⟩] ⟨cvo, cvo, cvo, cvo, cvs 0 hn9, ivC_c 1, cvo, cvo, ⟨⟩⟩ ?_
       refine sd_run 8 (sd_run 39 ?_)
       refine sdZ (.slice (some ⟨5, 0, none⟩) c.length (unk + 3)) hX (.slice (some ⟨3, 0, none⟩) c.length (unk + 3)) [(iiCo c false), (inCo od false), (inCo rd false), (ivCo (ofL c od rd (-1) (TG : Int)) false)] [some 0, some 1, some 2, some 5] ⟨iiC_b, inC_b, inC_b, bk_flat (tab ivC (usel (c.length : Int) (outL (c.length : Int) (outL (c.length : Int) (codeL c c.length) (od.take od.length)) (rd.take rd.length)) TG)) kr (tab_plain ivC_pl _) (congrArg (tab ivC) (by unfold ofL; simp only [List.take_length, useI_nat, useI_no (show (-1 : Int) < 0 by decide)])), ⟨⟩⟩ ⟨rfl, rfl⟩
     ·skip
      obtain ⟨qfl1, qfl2⟩ := valB_iff.1 hfl
      obtain ⟨FL, rfl⟩ := Int.eq_ofNat_of_zero_le qfl1
      rcases hR.tg_ with htg | htg
      ·skip
       subst htg
       refine sd_run 25 (sdC 82 48 #[.int .i64 (FL : Int), .int .i64 (c.length : Int), .pointer (some ⟨4, 0, none⟩)] (@use_s (outL (c.length : Int) (outL (c.length : Int) (codeL c c.length) (od.take od.length)) (rd.take rd.length)) FL c.length (c.length : Int) (by simp) (by omega) (by omega)) [some 4, some 5] ⟨brn, ivC_b, ⟨⟩⟩ ?_)
       rintro hn9 v9 k9 ⟨rfl, rfl⟩
       refine mkG (.tuple #[]) [(iiCo c false), (inCo od false), (inCo rd false), some ⟨[(s5 0 c.length), .int .i64 nd, .int .i64 nr, .int .i64 hd, .int .i64 hr, (s1 1 od.length), (s1 2 rd.length), .int .i64 (FL : Int), .int .u32 nx, .int .i64 (-1), .int .i64 br, .int .u32 tk, .int .i64 ct, .int .i64 (c.length : Int)], 29, false⟩, some ⟨[Value.slice (some ⟨5, 0, none⟩) c.length (unk + 3)], 65, false⟩, (ivCo (usel (c.length : Int) (outL (c.length : Int) (outL (c.length : Int) (codeL c c.length) (od.take od.length)) (rd.take rd.length)) FL) false), some ⟨[Value.int .i64 (FL : Int), .int .i64 (-1)], 3, false⟩, some ⟨[(s1 1 od.length), (s1 2 rd.length), .slice (some ⟨6, 0, none⟩) 2 2], 22, false⟩] ⟨cvo, cvo, cvo, cvo, cvs 0 hn9, ivC_c 1, cvo, cvo, ⟨⟩⟩ ?_
       refine sd_run 8 (sd_run 25 (sdCp 82 48 #[.int .i64 (-1), .int .i64 (c.length : Int), .pointer (some ⟨4, 0, none⟩)] (@use_no (usel (c.length : Int) (outL (c.length : Int) (outL (c.length : Int) (codeL c c.length) (od.take od.length)) (rd.take rd.length)) FL) c.length (c.length : Int) ) [some 4, some 5] ⟨brn, ivC_b, ⟨⟩⟩ ?_))
       rintro v9 k9 ⟨rfl, rfl⟩
       refine ⟨rfl, .tuple #[], kr, ?_⟩
       refine sd_run 8 (sd_run 39 ?_)
       refine sdZ (.slice (some ⟨5, 0, none⟩) c.length (unk + 3)) hX (.slice (some ⟨3, 0, none⟩) c.length (unk + 3)) [(iiCo c false), (inCo od false), (inCo rd false), (ivCo (ofL c od rd (FL : Int) (-1)) false)] [some 0, some 1, some 2, some 5] ⟨iiC_b, inC_b, inC_b, bk_flat (tab ivC (usel (c.length : Int) (outL (c.length : Int) (outL (c.length : Int) (codeL c c.length) (od.take od.length)) (rd.take rd.length)) FL)) kr (tab_plain ivC_pl _) (congrArg (tab ivC) (by unfold ofL; simp only [List.take_length, useI_nat, useI_no (show (-1 : Int) < 0 by decide)])), ⟨⟩⟩ ⟨rfl, rfl⟩
      ·skip
       obtain ⟨qtg1, qtg2⟩ := valB_iff.1 htg
       obtain ⟨TG, rfl⟩ := Int.eq_ofNat_of_zero_le qtg1
       refine sd_run 25 (sdC 82 48 #[.int .i64 (FL : Int), .int .i64 (c.length : Int), .pointer (some ⟨4, 0, none⟩)] (@use_s (outL (c.length : Int) (outL (c.length : Int) (codeL c c.length) (od.take od.length)) (rd.take rd.length)) FL c.length (c.length : Int) (by simp) (by omega) (by omega)) [some 4, some 5] ⟨brn, ivC_b, ⟨⟩⟩ ?_)
       rintro hn9 v9 k9 ⟨rfl, rfl⟩
       refine mkG (.tuple #[]) [(iiCo c false), (inCo od false), (inCo rd false), some ⟨[(s5 0 c.length), .int .i64 nd, .int .i64 nr, .int .i64 hd, .int .i64 hr, (s1 1 od.length), (s1 2 rd.length), .int .i64 (FL : Int), .int .u32 nx, .int .i64 (TG : Int), .int .i64 br, .int .u32 tk, .int .i64 ct, .int .i64 (c.length : Int)], 29, false⟩, some ⟨[Value.slice (some ⟨5, 0, none⟩) c.length (unk + 3)], 65, false⟩, (ivCo (usel (c.length : Int) (outL (c.length : Int) (outL (c.length : Int) (codeL c c.length) (od.take od.length)) (rd.take rd.length)) FL) false), some ⟨[Value.int .i64 (FL : Int), .int .i64 (TG : Int)], 3, false⟩, some ⟨[(s1 1 od.length), (s1 2 rd.length), .slice (some ⟨6, 0, none⟩) 2 2], 22, false⟩] ⟨cvo, cvo, cvo, cvo, cvs 0 hn9, ivC_c 1, cvo, cvo, ⟨⟩⟩ ?_
       refine sd_run 8 (sd_run 25 (sdC 82 48 #[.int .i64 (TG : Int), .int .i64 (c.length : Int), .pointer (some ⟨4, 0, none⟩)] (@use_s (usel (c.length : Int) (outL (c.length : Int) (outL (c.length : Int) (codeL c c.length) (od.take od.length)) (rd.take rd.length)) FL) TG c.length (c.length : Int) (by simp) (by omega) (by omega)) [some 4, some 5] ⟨brn, ivC_b, ⟨⟩⟩ ?_))
       rintro hn9 v9 k9 ⟨rfl, rfl⟩
       refine mkG (.tuple #[]) [(iiCo c false), (inCo od false), (inCo rd false), some ⟨[(s5 0 c.length), .int .i64 nd, .int .i64 nr, .int .i64 hd, .int .i64 hr, (s1 1 od.length), (s1 2 rd.length), .int .i64 (FL : Int), .int .u32 nx, .int .i64 (TG : Int), .int .i64 br, .int .u32 tk, .int .i64 ct, .int .i64 (c.length : Int)], 29, false⟩, some ⟨[Value.slice (some ⟨5, 0, none⟩) c.length (unk + 3)], 65, false⟩, (ivCo (usel (c.length : Int) (usel (c.length : Int) (outL (c.length : Int) (outL (c.length : Int) (codeL c c.length) (od.take od.length)) (rd.take rd.length)) FL) TG) false), some ⟨[Value.int .i64 (FL : Int), .int .i64 (TG : Int)], 3, false⟩, some ⟨[(s1 1 od.length), (s1 2 rd.length), .slice (some ⟨6, 0, none⟩) 2 2], 22, false⟩] ⟨cvo, cvo, cvo, cvo, cvs 0 hn9, ivC_c 1, cvo, cvo, ⟨⟩⟩ ?_
       refine sd_run 8 (sd_run 39 ?_)
       refine sdZ (.slice (some ⟨5, 0, none⟩) c.length (unk + 3)) hX (.slice (some ⟨3, 0, none⟩) c.length (unk + 3)) [(iiCo c false), (inCo od false), (inCo rd false), (ivCo (ofL c od rd (FL : Int) (TG : Int)) false)] [some 0, some 1, some 2, some 5] ⟨iiC_b, inC_b, inC_b, bk_flat (tab ivC (usel (c.length : Int) (usel (c.length : Int) (outL (c.length : Int) (outL (c.length : Int) (codeL c c.length) (od.take od.length)) (rd.take rd.length)) FL) TG)) kr (tab_plain ivC_pl _) (congrArg (tab ivC) (by unfold ofL; simp only [List.take_length, useI_nat, useI_no (show (-1 : Int) < 0 by decide)])), ⟨⟩⟩ ⟨rfl, rfl⟩
end Ls
end Go.Proofs.Ytegjicaoemhhlaa
